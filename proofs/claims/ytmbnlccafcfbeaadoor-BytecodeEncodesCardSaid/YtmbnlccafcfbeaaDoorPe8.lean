/- Parts of the proof: Wire10, Wire11, Wire2, Targets, Vpure, Map, Visit, Exam, CodeR. -/
import Derived.Deep.AppendLies
import Derived.Deep.DeepCutAuto
import Derived.Deep.LoopGhost
import Derived.Deep.RegionWith
import Derived.Lib.BufferWrite
import Derived.Lib.SliceRun
import Derived.Maps.AppendAt
import Derived.Maps.Own
import Derived.Maps.OwnOps
import Derived.Maps.OwnSet
import Derived.Test.YtmbnlccafcfbeaaDoorPeA
import Derived.WalkSmall
import Derived.Test.YtmbnlccafcfbeaaDoorPe0
import Derived.Test.YtmbnlccafcfbeaaDoorPe3
import Derived.Test.YtmbnlccafcfbeaaDoorPe7
import Derived.Test.YtmbnlccafcfbeaaDoorPeGrowK
set_option linter.unusedVariables false
set_option linter.unusedSimpArgs false
set_option linter.unusedSectionVars false
set_option maxRecDepth 100000
namespace Go.Proofs.YtmbnlccafcfbeaaDoor
section
open Go.RowKit
attribute [local go_sem] Oper.semAt_some
theorem Kp.boxed_kp {w w4 w1:World} {g q:Nat} (hb:Kp (fun k=>k=g) w w4) (hk:Kp (fun k=>k=g ∨ k=q) w4 w1) (hq:w.heap.size≤q):Kp (fun k=>k=g) w w1:=hb.trans hk fun k hk h=>h.resolve_right (by omega)
section
variable {w:World} {g bb:Nat} {r:Rd}
set_option maxHeartbeats 2000000 in
theorem Bool_any (h:RdX w g bb r) (hbb:bb < w.heap.size):Calls Tryd.prog 34 #[.pointer (some ⟨g,0,none⟩)] w (RdP w g bb (.bool r.bool.1) r.bool.2):=by
 obtain⟨A,c,h⟩:=h
 obtain⟨b,e⟩:=r
 have HG:Hid (w.heap.size+1≠g):=lh (by have:=h.lt;omega)
 obtain⟨w2,hw2⟩:∃ w2,w2=(w.alloc (.cells #[.pointer (some ⟨g,0,none⟩)] 61)).alloc (.cells #[.bool false] 4):=⟨_,rfl⟩
 have hb2:Below w.heap.size w w2:=by rw[hw2];exact((Below.refl _ _).alloc (Nat.le_refl _) _).alloc (by simp) _
 have hp:Bk w2 w.heap.size 61 #[.pointer (some ⟨g,0,none⟩)]:=by rw[hw2];exact Bk.alloc (Bk.new _ _ _) _
 have hq:Bk w2 (w.heap.size+1) 4 #[.bool false]:=by rw[hw2];exact Bk.here _ _ _ (by simp)
 have h2:=h.below hb2
 have HB2:=lh hb2
 have q0:w2.cell? ⟨w.heap.size+1,0,none⟩=some (.bool false):=hq.cell 0
 have p0:w2.cell? ⟨w.heap.size,0,none⟩=some (.pointer (some ⟨g,0,none⟩)):=hp.cell 0
 by_cases he:e=0
 ·subst he
  by_cases hn:b=[] ∨ ∃ x t,b=x::t∧1 < x
  ·have cT:=try_err (fid:=53) (caps:=#[.pointer (some ⟨w.heap.size,0,none⟩),.pointer (some ⟨w.heap.size+1,0,none⟩)]) enter_bool1 h2 (by decide) (Bool1_no h2 hp hn)
   have HU:Hid ((Rd.mk b 0).bool=(false,Rd.bad 11)):=lh (by
    unfold Rd.bool
    rw[if_neg (by simp)]
    rcases hn with rfl | ⟨x,t,rfl,hx⟩
    ·rfl
    ·dsimp only;rw[if_pos hx])
   clear h h2 hp hq hb2 hn
   go_enter Tryd.func34,Tryd.ntmps34
   go_upto_region 2 with fail
   rw[← hw2]
   clear hw2
   have Q0:=lh q0
   clear q0
   go_wp2_with fail
   refine cT.mono ?_
   rintro e w3 ⟨rfl,hx,hk⟩
   have HX:=lh hx
   have HK:=lh hk
   have q3:w3.cell? ⟨w.heap.size+1,0,none⟩=some (.bool false):=hk.cell Q0.out HG.out
   clear cT hx hk
   go_wp2_with fail
   go_ret
   rw[HU.out]
   exact⟨rfl,HX.out,(Kp.of_below HB2.out).trans HK.out fun _ _ h=>h⟩
  ·obtain⟨x,t,rfl⟩:∃ x t,b=x::t:=by
    cases b with
    | nil=>exact absurd (.inl rfl) hn
    | cons x t=>exact⟨x,t,rfl⟩
   have hx1:x≤1:=by
    by_cases h1:1 < x
    ·exact absurd (.inr ⟨x,t,rfl,h1⟩) hn
    ·omega
   have cT:=try_ok (fid:=53) (caps:=#[.pointer (some ⟨w.heap.size,0,none⟩),.pointer (some ⟨w.heap.size+1,0,none⟩)]) enter_bool1 h2 (Bool1_ok h2 hp hq (by omega) hx1)
   have HU:Hid ((Rd.mk (x::t) 0).bool=(decide (x=1),⟨t,0⟩)):=lh (by
    unfold Rd.bool
    rw[if_neg (by simp)]
    dsimp only
    rw[if_neg (by omega)])
   clear h h2 hp hq hb2 hn q0 hx1
   go_enter Tryd.func34,Tryd.ntmps34
   go_upto_region 2 with fail
   rw[← hw2]
   clear hw2
   go_wp2_with fail
   refine cT.mono ?_
   rintro e w3 ⟨rfl,hx,hq3,hk⟩
   have HX:=lh hx
   have HK:=lh hk
   have q3:w3.cell? ⟨w.heap.size+1,0,none⟩=some (.bool (decide (x=1))):=hq3.cell 0
   clear cT hx hk hq3
   go_wp2_with fail
   go_ret
   rw[HU.out]
   exact⟨rfl,HX.out,Kp.boxed HB2.out HK.out (by omega)⟩
 ·have cT:=try_no h2 he (.func (.func 53) #[] #[.pointer (some ⟨w.heap.size,0,none⟩),.pointer (some ⟨w.heap.size+1,0,none⟩)])
  have HU:Hid ((Rd.mk b e).bool=(false,⟨b,e⟩)):=lh (by unfold Rd.bool;rw[if_pos he])
  have HX:Hid (RdX w2 g bb ⟨b,e⟩):=lh ⟨A,c,h2⟩
  clear h h2 hp hq hb2 he
  go_enter Tryd.func34,Tryd.ntmps34
  go_upto_region 2 with fail
  rw[← hw2]
  clear hw2
  go_wp2_with fail
  refine cT.mono ?_
  rintro e' w3 ⟨rfl,rfl⟩
  clear cT
  go_wp2_with fail
  go_ret
  rw[HU.out]
  exact⟨rfl,HX.out,Kp.of_below HB2.out⟩
end
section
variable {w:World} {g bb:Nat} {r:Rd}
set_option maxHeartbeats 4000000 in
theorem String_any (h:RdX w g bb r) (hbb:bb < w.heap.size):Calls Tryd.prog 33 #[.pointer (some ⟨g,0,none⟩)] w (RdP w g bb (.string (r.text 4096).1) (r.text 4096).2):=by
 obtain⟨w2,hw2⟩:∃ w2,w2=w.alloc (.cells #[.pointer (some ⟨g,0,none⟩)] 61):=⟨_,rfl⟩
 have hb2:Below w.heap.size w w2:=by rw[hw2];exact(Below.refl _ _).alloc (Nat.le_refl _) _
 have hsz:w2.heap.size=w.heap.size+1:=by rw[hw2];simp
 have hp:Bk w2 w.heap.size 61 #[.pointer (some ⟨g,0,none⟩)]:=by rw[hw2];exact Bk.new _ _ _
 have cU:=Uint_any (h.below hb2) (by omega)
 have hrg:=Rd.u_rg h.b8
 have HCT:Hid (r.text 4096=if r.u.2.e≠0 then (⟨#[]⟩,r.u.2) else if 4096 < r.u.1 then (⟨#[]⟩,Rd.bad 8) else if (r.u.2.b.length:Int) < r.u.1 then (⟨#[]⟩,Rd.bad 11) else (txt (r.u.2.b.take r.u.1.toNat),⟨r.u.2.b.drop r.u.1.toNat,0⟩)):=lh rfl
 have HG:Hid (w.heap.size≠g∧g < w.heap.size∧bb < w.heap.size):=lh (by
  obtain⟨A,c,h⟩:=h
  have:=h.bk.lt
  omega)
 obtain⟨u,hu⟩:∃ u,u=r.u:=⟨_,rfl⟩
 rw[← hu] at cU hrg HCT
 obtain⟨n,⟨b,e⟩⟩:=u
 dsimp only at cU hrg HCT
 have p0:w2.cell? ⟨w.heap.size,0,none⟩=some (.pointer (some ⟨g,0,none⟩)):=hp.cell 0
 have HP:=lh hp
 have HB2:=lh (And.intro hb2 hsz)
 have HRG:=lh hrg
 clear h hu hp hb2 hsz hrg
 go_enter Tryd.func33,Tryd.ntmps33
 go_upto_region 1 with fail
 rw[← hw2]
 clear hw2
 go_wp2_with fail
 refine cU.mono ?_
 rintro e' w3 ⟨rfl,hx,hk⟩
 obtain⟨w4,hw4⟩:∃ w4,w4=(w3.alloc (.cells #[.int .u64 n] 56)).alloc (.cells #[.string ⟨#[]⟩] 9):=⟨_,rfl⟩
 obtain⟨q,hq⟩:∃ q,q=w3.heap.size:=⟨_,rfl⟩
 have hb4:Below w3.heap.size w3 w4:=by rw[hw4];exact((Below.refl _ _).alloc (Nat.le_refl _) _).alloc (by simp) _
 have hqk:Bk w4 q 56 #[.int .u64 n]:=by rw[hw4,hq];exact Bk.alloc (Bk.new _ _ _) _
 have hsk:Bk w4 (q+1) 9 #[.string ⟨#[]⟩]:=by rw[hw4,hq];exact Bk.here _ _ _ (by simp)
 have hp3:=HP.out.kp hk HG.out.1
 have hp4:=hp3.below hb4 hp3.lt
 have hq1:w.heap.size < q:=by rw[hq];exact Nat.lt_of_lt_of_le (by rw[HB2.out.2];omega) hk.size
 have HX4:=hx.below hb4
 have HK4:Hid (Kp (fun k=>k=g) w w4):=lh ((Kp.of_below HB2.out.1).trans (hk.trans (Kp.of_below (S:=fun k=>k=g) hb4) fun _ _ h=>h) fun _ _ h=>h)
 have HQ:Hid (q+1≠g∧q+1≠bb∧w.heap.size≤q+1):=lh (by have:=HG.out;omega)
 clear cU hx hk p0 hp3 hb4 hq1
 go_upto_region 2 with fail
 rw[← hw4,← hq]
 have p4:w4.cell? ⟨w.heap.size,0,none⟩=some (.pointer (some ⟨g,0,none⟩)):=hp4.cell 0
 have HS4:Hid (w4.cell? ⟨q+1,0,none⟩=some (.string ⟨#[]⟩)):=lh (hsk.cell 0)
 clear hw4 hq
 obtain⟨A,c,h4⟩:=HX4
 have H4:=lh h4
 by_cases he:e=0
 ·subst he
  by_cases hm:4096 < n
  ·have cT:=try_err (fid:=52) (caps:=#[.pointer (some ⟨q,0,none⟩),.pointer (some ⟨w.heap.size,0,none⟩),.pointer (some ⟨q+1,0,none⟩)]) enter_string1 h4 (by decide) (String1_big hqk hm)
   rw[if_neg (by simp),if_pos hm] at HCT
   clear h4 hp4 hsk hqk hm
   go_wp2_with fail
   refine cT.mono ?_
   rintro e w5 ⟨rfl,hx,hk⟩
   have HX:=lh (And.intro hx (HK4.out.trans hk fun _ _ h=>h))
   have s5:w5.cell? ⟨q+1,0,none⟩=some (.string ⟨#[]⟩):=hk.cell HS4.out HQ.out.1
   clear cT hx hk
   go_wp2_with fail
   go_ret
   rw[HCT.out]
   exact⟨rfl,HX.out.1,HX.out.2⟩
  ·by_cases hl:(b.length:Int) < n
   ·have cT:=try_err (fid:=52) (caps:=#[.pointer (some ⟨q,0,none⟩),.pointer (some ⟨w.heap.size,0,none⟩),.pointer (some ⟨q+1,0,none⟩)]) enter_string1 h4 (by decide) (String1_bad h4 hqk hp4 (by omega) hl)
    rw[if_neg (by simp),if_neg (by omega),if_pos hl] at HCT
    clear h4 hp4 hsk hqk hm hl
    go_wp2_with fail
    refine cT.mono ?_
    rintro e w5 ⟨rfl,hx,hk⟩
    have HX:=lh (And.intro hx (HK4.out.trans hk fun _ _ h=>h))
    have s5:w5.cell? ⟨q+1,0,none⟩=some (.string ⟨#[]⟩):=hk.cell HS4.out HQ.out.1
    clear cT hx hk
    go_wp2_with fail
    go_ret
    rw[HCT.out]
    exact⟨rfl,HX.out.1,HX.out.2⟩
   ·obtain⟨N,rfl⟩:=Int.eq_ofNat_of_zero_le HRG.out.1
    have cT:=try_ok (fid:=52) (caps:=#[.pointer (some ⟨q,0,none⟩),.pointer (some ⟨w.heap.size,0,none⟩),.pointer (some ⟨q+1,0,none⟩)]) enter_string1 h4 (String1_ok h4 hqk hp4 hsk HQ.out.2.1 (by omega) (by omega))
    rw[if_neg (by simp),if_neg (by omega),if_neg hl,Int.toNat_natCast] at HCT
    clear h4 hp4 hsk hqk hm hl
    go_wp2_with fail
    refine cT.mono ?_
    rintro e w5 ⟨rfl,hx,hs,hk⟩
    have HX:=lh (And.intro hx (Kp.boxed_kp HK4.out hk HQ.out.2.2))
    have s5:w5.cell? ⟨q+1,0,none⟩=some (.string (txt (b.take N))):=hs.cell 0
    clear cT hx hk hs
    go_wp2_with fail
    go_ret
    rw[HCT.out]
    exact⟨rfl,HX.out.1,HX.out.2⟩
 ·have cT:=try_no h4 he (.func (.func 52) #[] #[.pointer (some ⟨q,0,none⟩),.pointer (some ⟨w.heap.size,0,none⟩),.pointer (some ⟨q+1,0,none⟩)])
  rw[if_pos he] at HCT
  have s4:=HS4.out
  clear h4 hp4 hsk hqk he
  go_wp2_with fail
  refine cT.mono ?_
  rintro e' w5 ⟨rfl,rfl⟩
  clear cT
  go_wp2_with fail
  go_ret
  rw[HCT.out]
  exact⟨rfl,⟨A,c,H4.out⟩,HK4.out⟩
theorem Done_any (h:RdX w g bb r):Calls Tryd.prog 37 #[.pointer (some ⟨g,0,none⟩)] w fun e w1=>e=.returned (.int .i64 (if r.e=0∧r.b≠[] then 11 else r.e))∧w=w1:=by
 obtain⟨A,c,h⟩:=h
 have c1:w.cell? ⟨g,1,none⟩=some (.int .i64 r.e):=h.bk.cell 1
 have c0:w.cell? ⟨g,0,none⟩=some (.slice A r.b.length c):=h.bk.cell 0
 obtain⟨b,e⟩:=r
 dsimp only at c0 c1 ⊢
 clear h
 by_cases he:e=0
 ·subst he
  cases b with
  | nil =>
   go_enter Tryd.func37,Tryd.ntmps37
   go_wp2_with fail
   all_goals (go_ret;exact⟨rfl,rfl⟩)
  | cons x t =>
   rw[List.length_cons] at c0
   have d0:decide (((t.length:Int)+1) > 0)=true:=decide_eq_true (by omega)
   go_enter Tryd.func37,Tryd.ntmps37
   go_wp2_with fail
   all_goals (go_ret;exact⟨rfl,rfl⟩)
 ·have d0:(e == 0)=false:=by simpa using he
  rw[if_neg (fun h=>he h.1)]
  go_enter Tryd.func37,Tryd.ntmps37
  go_wp2_with fail
  go_ret
  exact⟨rfl,rfl⟩
end
end
section
open Go.RowKit
attribute [local go_sem] Oper.semAt_some
section
variable {w:World} {b:List Int}
theorem byts_one (l:List Int):∀ u∈byts l,u.oneCell'=true:=fun u hu=>by
 obtain⟨x,_,rfl⟩:=List.mem_map.1 hu
 rfl
set_option maxHeartbeats 1000000 in
theorem bClone_any {A:Option Addr} {c:Nat} (h:Sl w 1 A b.length (byts b)) (hl:b.length≤4294967297) :
  Calls Tryd.prog 48 #[.slice A b.length c] w fun e w'=>∃ v,e=.returned v∧w'.ownsRow w.heap.size 5 1 v b.length (byts b)∧Below w.heap.size w w':=by
 cases A with
 | none =>
  have hl0:b.length=0:=by
   rcases h.2 with h | ⟨_,_,h,_⟩
   ·exact h
   ·cases h
  obtain rfl:b=[]:=List.length_eq_zero_iff.1 hl0
  clear h hl hl0
  go_enter Tryd.func48,Tryd.ntmps48
  have q:=fun w n c=>Lib.run_eql_slice_nil w 29 _ none n c 0 0 Tryd.underlying29
  go_wp2_with fail
  go_ret
  exact⟨_,rfl,World.ownsRow_nil _ _ _ _,Below.refl _ _⟩
 | some ad =>
  obtain⟨i0,hi,hz0,hz1,hz2⟩:=info_parts i_u8
  have HI:=lh (And.intro hi (And.intro hz0 (And.intro hz1 hz2)))
  have hbe:Below w.heap.size w (w.alloc (.cells #[] 5)):=(Below.refl _ _).alloc (Nat.le_refl _) _
  have HBE:=lh hbe
  have hwe:(w.alloc (.cells #[] 5)).ownsRow w.heap.size 5 1 (.slice (some ⟨w.heap.size,0,none⟩) 0 0) 0 []:=ownEmpty 1 (Bk.new _ _ _) (Nat.le_refl _)
  have HWE:=lh hwe
  have HS:=lh h
  clear h hi hz0 hz1 hz2 hbe hwe
  have q:=fun w n c=>Lib.run_eql_slice_nil w 29 _ (some ad) n c 0 0 Tryd.underlying29
  go_enter Tryd.func48,Tryd.ntmps48
  go_wp2_with (at_builtin;refine wpList_app rfl (.tmp 5) (.tmp 6) 29 rfl Tryd.underlying29 HI.out.1 HI.out.2.1 HI.out.2.2.1 HI.out.2.2.2 rfl (by decide) (n:=0) (xs:=[]) rfl HWE.out (A:=some ad) (m:=b.length) (c:=c) (news:=byts b) rfl (HS.out.below HBE.out) (byts_one _) (by unfold maxLen;omega) (by omega) (by simp) ?_;intro v2 w2 ho2 hg2 h42;simp only[Nat.zero_add,List.nil_append] at ho2;have HO2:=lh ho2;have HB2:Hid (Below w.heap.size w w2):=lh (HBE.out.grown hg2 (by simp) (fun k hk=>by cases hk;exact Nat.le_refl _));clear ho2 hg2 h42)
  go_ret
  exact⟨_,rfl,HO2.out,HB2.out⟩
/-- a row of one's own, boxed into a reader -/
theorem RdX.boxed {B g:Nat} {A:Option Addr} {c:Nat} (h:w.ownsRow B 5 1 (.slice A b.length c) b.length (byts b)) (hg:Bk w g 79 #[.slice A b.length c,.int .i64 0]) (h8:B8 b) (hB:0 < g) (hA:∀ a,A=some a→a.block < g):∃ bb,bb < g∧RdX w g bb ⟨b,0⟩:=by
 have hs:=own_sl h
 rcases h.2 with ⟨e,h0⟩ | ⟨k,cap,cur,e,h3,h4,h5,h6,_⟩
 ·injection e with e1 e2 e3
  subst e1 e3
  exact⟨0,hB,none,0,hg,by dsimp only;omega,Nat.zero_le _,hs,fun b o m e=>(by cases e),fun _=>rfl,by omega,h8⟩
 ·injection e with e1 e2 e3
  subst e1 e3
  have hk:=hA _ rfl
  exact⟨k,hk,_,c,hg,h5,by unfold maxLen at h6;omega,hs,fun b o m e=>(by cases e;exact⟨rfl,rfl⟩),fun e=>(by cases e),by dsimp only at hk;omega,h8⟩
set_option maxHeartbeats 1000000 in
theorem NewReader_any {A:Option Addr} {c:Nat} (h:Sl w 1 A b.length (byts b)) (h8:B8 b) (hl:b.length≤4294967297) (hw:0 < w.heap.size) :
  Calls Tryd.prog 31 #[.slice A b.length c] w fun e w'=>∃ g bb,e=.returned (.pointer (some ⟨g,0,none⟩))∧bb < g∧w.heap.size≤g∧RdX w' g bb ⟨b,0⟩∧Below w.heap.size w w':=by
 have cC:=bClone_any (c:=c) h hl
 have HH:=lh (And.intro h8 hw)
 clear h h8 hw
 go_enter Tryd.func31,Tryd.ntmps31
 go_wp2_with fail
 refine cC.mono ?_
 rintro e w1 ⟨v,rfl,ho,hb⟩
 obtain⟨A1,c1,rfl,hle⟩:=own_shape ho
 have HO:=lh (And.intro ho hb)
 clear cC ho hb
 go_wp2_with fail
 go_ret
 have hk:∀ a,A1=some a→a.block < w1.heap.size:=fun a ha=>by
  subst ha
  exact(HO.out.1.lt _ rfl).2
 have hbk:Bk (w1.alloc (.cells #[.slice A1 b.length c1,.int .i64 0] 79)) w1.heap.size 79 #[.slice A1 b.length c1,.int .i64 0]:=Bk.new _ _ _
 obtain⟨bb,h1,h2⟩:=RdX.boxed (w:=w1.alloc (.cells #[.slice A1 b.length c1,.int .i64 0] 79)) (own_local HO.out.1 fun k hk=>Below.heap_alloc _ _ k (HO.out.1.lt k hk).2) hbk HH.out.1 (by have:=HO.out.2.size;have:=HH.out.2;omega) hk
 exact⟨_,bb,rfl,h1,HO.out.2.size,h2,HO.out.2.alloc (HO.out.2.size) _⟩
end
end
section
open Go.RowKit
attribute [local go_sem] Oper.semAt_some
theorem byts_bts (s:ByteArray):byts (bts s)=Lib.byteCells s.data.toList:=by unfold byts bts Lib.byteCells;rw[List.map_map];rfl
def GrP (g L n:Nat) (cur:Array Value) (w:World) (e:Ending) (w':World):Prop:=∃ g2 cap2 cur2,e=.returned (.slice (some ⟨g2,0,none⟩) L cap2)∧Bk w' g2 5 cur2∧L+n≤cap2∧cap2≤maxLen∧cur2.size=cap2∧cur2.toList.take L=cur.toList.take L∧(g2=g ∨ g2=w.heap.size)∧Below w.heap.size w w'
theorem Grow_any {w:World} {g L n cap:Nat} {cur:Array Value} (hg:Bk w g 5 cur) (hL:L≤cap) (hcm:cap≤maxLen) (hcs:cur.size=cap) (hn:L+n≤70368744177664):Calls Tryd.prog 47 #[.slice (some ⟨g,0,none⟩) L cap,.int .i64 (n:Int)] w (GrP g L n cur w):=by
 have hcm':=hcm
 unfold maxLen at hcm'
 by_cases hr:L+n≤cap
 ·refine(Any8.slices_Grow_room Tryd.growB (some ⟨g,0,none⟩) L cap n w hL (by omega) (by omega) hr).mono ?_
  rintro e w' ⟨rfl,rfl⟩
  exact⟨g,cap,cur,rfl,hg,hr,hcm,hcs,rfl,.inl rfl,Below.refl _ _⟩
 ·obtain⟨i0,hi,hz0,hz1,hz2⟩:=info_parts i_u8
  have h:=Any8.slices_Grow_grow Tryd.growB i0 (.int .u8 0) hi hz0 (by rw[hz1];decide) (some ⟨g,0,none⟩) L cap n cur.toList w hL (by omega) (by rw[hz2];omega) (by omega) (by rw[hz1];simp[hcs]) (by simp) (fun a ha j v hv=>by
   cases ha
   have:=hg.cell j
   rw[show(⟨g,0,none⟩:Addr).add j=⟨g,j,none⟩ by simp[Addr.add];exact fun h=>h.symm,this]
   simpa using hv)
  refine h.mono ?_
  rintro e w' ⟨rfl,rfl⟩
  have hG:=grownCap_ge w (L+n) cap 5
  have hG2:=grownCap_le_maxLen w (L+n) cap 5 (by unfold maxLen;omega)
  refine⟨w.heap.size,grownCap w (L+n) cap 5,_,rfl,Bk.new _ _ _,hG,hG2,?_,?_,.inr rfl,(Below.drew (Below.refl _ _)).alloc (Nat.le_refl _) _⟩
  ·simp[size_zeroCells,hcs]
   have e1:(Value.int IntKind.u8 0).cells.size=1:=rfl
   have e2:Tryd.growB_ren.t 25=5:=rfl
   rw[e1,e2]
   omega
  ·simp only[Array.toList_append]
   rw[List.append_assoc,List.take_append_of_le_length (by simp;omega)]
section
variable {w:World} {B c:Nat} {A:Option Addr} {l:List Int}
set_option maxHeartbeats 4000000 in
theorem AppendString_any {s:ByteArray} (ho:w.ownsRow B 5 1 (.slice A l.length c) l.length (byts l)) (hB:B≤w.heap.size) (hs:s.size≤4294967296) (hl:l.length≤4294967296):Calls Tryd.prog 29 #[.slice A l.length c,.string s] w (ApP B w (.slice A l.length c) (l++encS s)):=by
 have cU:=AppendUint_any ho hB (n:=(s.size:Int)) ⟨by omega,by omega⟩ hl
 have hw0:IntKind.u64.wrap (s.size:Int)=(s.size:Int):=by rw[IntKind.wrap_u64];omega
 have HU:Hid ((l++encU (s.size:Int)).length≤4294967305∧0 < (l++encU (s.size:Int)).length):=lh (by
  have:=encU_len (n:=(s.size:Int)) (by omega)
  rw[List.length_append]
  refine⟨by omega,?_⟩
  unfold encU
  rw[List.length_cons]
  omega)
 obtain⟨l1,hl1⟩:∃ l1,l1=l++encU (s.size:Int):=⟨_,rfl⟩
 rw[← hl1] at cU HU
 have HL1:Hid (l++encS s=l1++bts s):=lh (by rw[hl1,List.append_assoc];rfl)
 clear ho hB hl hl1
 go_enter Tryd.func29,Tryd.ntmps29
 go_wp2_with fail
 refine cU.mono ?_
 rintro e w1 ⟨v1,rfl,ho1,hk1,hv1⟩
 obtain⟨hlen,⟨_,h0⟩ | ⟨g,cap,cur,rfl,hBg,hg,hnc,hcm,hcs,htk⟩⟩:=ho1
 ·have:=HU.out.2
  omega
 ·have hLb:=HU.out.1
  have cG:=Grow_any (w:=w1) (g:=g) (L:=l1.length) (n:=s.size) (cap:=cap) (cur:=cur) hg hnc hcm (by simpa using hcs) (by omega)
  rw[Nat.mul_one] at htk
  have H1:Hid (B≤g∧g < w1.heap.size∧cur.toList.take l1.length=byts l1∧Kp (fun k=>(Value.slice A l.length c).ownBlock=some k) w w1∧((Value.slice A l.length c).ownBlock=some g ∨ w.heap.size≤g)):=lh ⟨hBg,(Array.getElem?_eq_some_iff.1 hg).1,htk,hk1,hv1 g rfl⟩
  clear hlen hBg hg hcs htk hk1 hv1 cU
  go_wp2_with fail
  refine cG.mono ?_
  rintro e w2 ⟨g2,cap2,cur2,rfl,hg2,hroom,hcm2,hcs2,htk2,hor,hb2⟩
  have H2:Hid (B≤g2∧((Value.slice A l.length c).ownBlock=some g2 ∨ w.heap.size≤g2)∧cur2.toList.take l1.length=byts l1∧Kp (fun k=>(Value.slice A l.length c).ownBlock=some k) w w2):=lh (by
   have h:=H1.out
   refine⟨?_,?_,htk2.trans h.2.2.1,h.2.2.2.1.trans (Kp.of_below (S:=fun _=>False) hb2) fun k _ hk=>hk.elim⟩
   ·rcases hor with e | e <;> rw[e] <;> omega
   ·rcases hor with e | e
    ·rw[e];exact h.2.2.2.2
    ·right;rw[e];exact h.2.2.2.1.size)
  have HG2:=lh hg2
  have hcm2':=hcm2
  unfold maxLen at hcm2' hcm
  have hrow:w2.ownsRow B 5 1 (.slice (some ⟨g2,0,none⟩) l1.length cap2) l1.length (byts l1):=⟨by rw[byts_len,Nat.mul_one],.inr ⟨g2,cap2,cur2,rfl,H2.out.1,hg2,by omega,hcm2,by rw[hcs2,Nat.mul_one],by rw[Nat.mul_one];exact H2.out.2.2.1⟩⟩
  have HROW:=lh hrow
  clear cG H1 htk2 hor hb2 hrow
  by_cases hn:s.size=0
  ·have hcp:∀ (d:Option Addr) (dl dc:Nat) (w:World),(Builtin.copy_ #[29,9] 3 #[.slice d dl dc,.string s]).run Tryd.prog w=.ok (goInt 0) w:=fun d dl dc w=>Lib.run_copy_empty_string w _ _ _ 5 d dl dc s Tryd.underlying29 (by kernel_rfl) hn
   have HS:Hid (bts s=[]):=lh (List.length_eq_zero_iff.1 (by rw[bts_len];exact hn))
   have hsum:wrap64 ((l1.length:Int)+(s.size:Int))=(l1.length:Int):=by unfold wrap64;omega
   by_cases hc:l1.length=cap2
   ·subst hc
    go_wp2_with fail
    go_ret
    exact⟨_,rfl,by rw[HL1.out,HS.out,List.append_nil];exact HROW.out,H2.out.2.2.2,fun k hk=>by cases hk;exact H2.out.2.1⟩
   ·have hlt:l1.length < cap2:=by omega
    go_wp2_with fail
    go_ret
    exact⟨_,rfl,by rw[HL1.out,HS.out,List.append_nil];exact HROW.out,H2.out.2.2.2,fun k hk=>by cases hk;exact H2.out.2.1⟩
  ·have hcp:∀ dc,(Builtin.copy_ #[29,9] 3 #[.slice (some ⟨g2,l1.length,none⟩) s.size dc,.string s]).run Tryd.prog w2=.ok (goInt s.size) (w2.setRow g2 (cur2.toList.take l1.length++Lib.byteCells s.data.toList++cur2.toList.drop (l1.length+s.size)).toArray):=fun dc=>Lib.run_copy_row_string w2 _ _ _ 5 g2 l1.length s.size dc s cur2 5 Tryd.underlying29 (by kernel_rfl) hg2 (Nat.le_refl _) (by omega)
   have hlt:l1.length < cap2:=by omega
   have hc:¬ l1.length=cap2:=by omega
   clear hg2
   go_wp2_with fail
   go_ret
   refine⟨.slice (some ⟨g2,0,none⟩) (l1.length+s.size) cap2,rfl,?_,?_,fun k hk=>by cases hk;exact H2.out.2.1⟩
   ·rw[HL1.out,byts_app,byts_bts,List.length_append,bts_len]
    refine⟨by rw[List.length_append,byts_len,Lib.byteCells_length,← Lib.size_eq,Nat.mul_one],.inr ⟨g2,cap2,_,rfl,H2.out.1,setRow_heap _ _ _ _ _ _ HG2.out,hroom,hcm2,?_,?_⟩⟩
    ·simp[Lib.byteCells_length,← Lib.size_eq]
     omega
    ·rw[Nat.mul_one,← H2.out.2.2.1]
     have e:(l1.length+s.size)=(cur2.toList.take l1.length++Lib.byteCells s.data.toList).length:=by simp[Lib.byteCells_length,← Lib.size_eq];omega
     conv=>lhs;rw[e]
     show List.take _ (_++(_++_))=_
     rw[← List.append_assoc,List.take_left]
   ·refine H2.out.2.2.2.trans (T:=fun k=>k=g2) ⟨rfl,rfl,rfl,by simp,fun k _ hk=>setRow_other _ _ _ _ hk⟩ fun k hk e=>?_
    rcases H2.out.2.1 with h | h
    ·rw[e];exact h
    ·omega
end
end
section
open Go.RowKit
def targetsI (n a b at':Int):List Int:=if validB n a b && n != 25 then (if n=18 then [a] else if n=19 ∨ n=20 then [at'+1,a] else [at'+1]) else []
end
section
abbrev Ins:=Int × Int × Int
def iV (x:Ins):Bool:=validB x.1 x.2.1 x.2.2
def iP (x:Ins):Int:=popsI x.1 x.2.1 x.2.2
def iU (x:Ins):Int:=pushesI x.1 x.2.1 x.2.2
def iT (x:Ins) (i:Nat):List Int:=targetsI x.1 x.2.1 x.2.2 i
/-- D is a consistent assignment of depths. -/
def Good (c:List Ins) (D:Nat→Option Int):Prop :=
 D 0=some 0∧∀ i d,D i=some d→∃ x,c[i]?=some x∧iV x=true∧iP x≤d∧d - iP x+iU x≤64 ∧
  ∀ t∈iT x i,∃ n:Nat,t=n∧D n=some (d - iP x+iU x)
inductive Reach (c:List Ins):Nat→Prop
 | zero:0 < c.length→Reach c 0
 | step {i n:Nat} {x:Ins}:Reach c i→c[i]?=some x→(n:Int)∈iT x i→n < c.length→Reach c n
structure VS where
 f:Nat→Option Int
 work:List Nat
 sound:Bool
 most:Int
def upd (f:Nat→Option Int) (n:Nat) (d:Int):Nat→Option Int:=fun k=>if k=n then some d else f k
/-- one call of visit -/
def visitS (len:Nat) (t d:Int) (s:VS):VS :=
 if t < 0 ∨ (len:Int)≤t then { s with sound:=false }
 else match s.f t.toNat with
  | some was=>{ s with sound:=s.sound && was == d }
  | none=>{ s with f:=upd s.f t.toNat d,work:=s.work++[t.toNat] }
/-- what a round does to an instruction at a depth, ahead of the visits -/
def markS (x:Ins) (d:Int) (s:VS):VS :=
 let b:=d - iP x+iU x
 let m:=max s.most (max d b)
 { s with most:=m,sound:=if iP x > d ∨ m > 64 then false else s.sound }
def roundS (c:List Ins) (at':Nat) (x:Ins) (d:Int) (s:VS):VS :=
 if iV x then (iT x at').foldl (fun s t=>visitS c.length t (d - iP x+iU x) s) (markS x d s) else { s with sound:=false }
/-- an instruction is done: it is sound by itself and so are its targets -/
def Done (c:List Ins) (f:Nat→Option Int) (most:Int) (i:Nat) (d:Int):Prop :=
 ∃ x,c[i]?=some x∧iV x=true∧iP x≤d∧d - iP x+iU x≤64∧d≤most∧d - iP x+iU x≤most∧∀ t∈iT x i,∃ n:Nat,t=n∧f n=some (d - iP x+iU x)
structure Inv (c:List Ins) (s:VS):Prop where
 zero:s.f 0=some 0
 dom:∀ i d,s.f i=some d→i < c.length∧Reach c i
 work:∀ i∈s.work,∃ d,s.f i=some d
 nodup:s.work.Nodup
 closed:∀ i d x,s.f i=some d→i ∉ s.work→c[i]?=some x→∀ n:Nat,(n:Int)∈iT x i→n < c.length→(s.f n).isSome=true
 done:s.sound=true→∀ i d,s.f i=some d→i ∉ s.work→Done c s.f s.most i d
 forced:s.sound=true→∀ D,Good c D→∀ i d,s.f i=some d→D i=some d
 le64:s.sound=true→∀ i d,s.f i=some d→d≤64
 bad:s.sound=false→∀ D,¬ Good c D
 most0:0≤s.most
 most64:s.sound=true→s.most≤64
 mostIs:s.sound=true→s.most=0 ∨ ∃ i d x,s.f i=some d∧c[i]?=some x∧(s.most=d ∨ s.most=d - iP x+iU x)
/-- what a row of visits leaves -/
structure Visited (len:Nat) (b:Int) (s s':VS) (ts:List Int):Prop where
 mono:∀ i d,s.f i=some d→s'.f i=some d
 new:∀ i d,s'.f i=some d→s.f i=some d ∨ (s.f i=none∧(i:Int)∈ts∧i < len∧d=b)
 work:∃ l,s'.work=s.work++l∧l.Nodup∧(∀ i∈l,s.f i=none∧s'.f i=some b)∧∀ i d,s'.f i=some d→s.f i=none→i∈l
 some_:∀ n:Nat,(n:Int)∈ts→n < len→(s'.f n).isSome=true
 good:s'.sound=true→s.sound=true∧∀ t∈ts,∃ n:Nat,t=n∧n < len∧s'.f n=some b
 bad:s'.sound=false→s.sound=false ∨ ∃ t∈ts,(t < 0 ∨ (len:Int)≤t) ∨ ∃ n:Nat,t=n∧∃ d,s'.f n=some d∧d≠b
 most:s'.most=s.most
theorem Visited.nil (len:Nat) (b:Int) (s:VS):Visited len b s s [] where
 mono:=fun _ _ h=>h
 new:=fun _ _ h=>.inl h
 work:=⟨[],by simp,List.nodup_nil,by simp,fun i d h h'=>by rw[h] at h';cases h'⟩
 some_:=fun n h=>by cases h
 good:=fun h=>⟨h,by simp⟩
 bad:=fun h=>.inl h
 most:=rfl
theorem Visited.one (len:Nat) (t b:Int) (s:VS):Visited len b s (visitS len t b s) [t]:=by
 unfold visitS
 by_cases ho:t < 0 ∨ (len:Int)≤t
 ·rw[if_pos ho]
  exact { mono:=fun _ _ h=>h,new:=fun _ _ h=>.inl h,work:=⟨[],by simp,List.nodup_nil,by simp,fun i d h h'=>by simp_all⟩,some_:=fun n h hn=>by simp at h;omega,good:=fun h=>by simp at h,bad:=fun _=>.inr ⟨t,by simp,.inl ho⟩,most:=rfl }
 ·rw[if_neg ho]
  obtain⟨n,rfl⟩:=Int.eq_ofNat_of_zero_le (show 0≤t by omega)
  have hn:n < len:=by omega
  simp only[Int.toNat_natCast]
  cases hf:s.f n with
  | some was =>
   simp only
   refine { mono:=fun _ _ h=>h,new:=fun _ _ h=>.inl h,work:=⟨[],by simp,List.nodup_nil,by simp,fun i d h h'=>by simp_all⟩,some_:=fun m h _=>by(have hmn:m=n:=by simp at h;omega);subst hmn;simp[hf],good:=fun h=>?_,bad:=fun h=>?_,most:=rfl }
   ·simp at h
    exact⟨h.1,fun t ht=>⟨n,by simpa using ht,hn,by rw[hf,h.2]⟩⟩
   ·simp at h
    cases hs:s.sound with
    | false=>exact .inl rfl
    | true=>exact .inr ⟨n,by simp,.inr ⟨n,rfl,was,hf,h hs⟩⟩
  | none =>
   simp only
   refine { mono:=fun i d h=>?_,new:=fun i d h=>?_,work:=⟨[n],rfl,by simp,fun i hi=>?_,fun i d h h'=>?_⟩,some_:=fun m h _=>?_,good:=fun h=>⟨h,fun t ht=>⟨n,by simpa using ht,hn,by simp[upd]⟩⟩,bad:=fun h=>.inl h,most:=rfl }
   ·have:i≠n:=by rintro rfl;rw[hf] at h;cases h
    simp[upd,this,h]
   ·by_cases hi:i=n
    ·subst hi;simp[upd] at h;exact .inr ⟨hf,by simp,hn,h.symm⟩
    ·simp[upd,hi] at h;exact .inl h
   ·simp at hi;subst hi;exact⟨hf,by simp[upd]⟩
   ·by_cases hi:i=n
    ·simp[hi]
    ·simp[upd,hi] at h;rw[h] at h';cases h'
   ·have hmn:m=n:=by simp at h;omega
    subst hmn;simp[upd]
theorem Visited.trans {len:Nat} {b:Int} {s s1 s2:VS} {l m:List Int} (h:Visited len b s s1 l) (k:Visited len b s1 s2 m):Visited len b s s2 (l++m) where
 mono:=fun i d e=>k.mono i d (h.mono i d e)
 new:=fun i d e=>by
  rcases k.new i d e with e1 | ⟨e1,e2,e3,e4⟩
  ·rcases h.new i d e1 with f1 | ⟨f1,f2,f3,f4⟩
   ·exact .inl f1
   ·exact .inr ⟨f1,by simp[f2],f3,f4⟩
  ·refine .inr ⟨?_,by simp[e2],e3,e4⟩
   cases hs:s.f i with
   | none=>rfl
   | some d'=>have:=h.mono i d' hs;rw[e1] at this;cases this
 work:=by
  obtain⟨l1,a1,a2,a3,a4⟩:=h.work
  obtain⟨l2,b1,b2,b3,b4⟩:=k.work
  refine⟨l1++l2,by rw[b1,a1,List.append_assoc],?_,fun i hi=>?_,fun i d e e'=>?_⟩
  ·refine List.nodup_append.2 ⟨a2,b2,fun x hx y hy=>?_⟩
   rintro rfl
   have:=(a3 x hx).2
   rw[(b3 x hy).1] at this
   cases this
  ·rcases List.mem_append.1 hi with hi | hi
   ·exact⟨(a3 i hi).1,k.mono _ _ (a3 i hi).2⟩
   ·refine⟨?_,(b3 i hi).2⟩
    cases hs:s.f i with
    | none=>rfl
    | some d'=>have:=h.mono i d' hs;rw[(b3 i hi).1] at this;cases this
  ·cases h1:s1.f i with
   | none=>exact List.mem_append.2 (.inr (b4 i d e h1))
   | some d'=>exact List.mem_append.2 (.inl (a4 i d' h1 e'))
 some_:=fun n hn hl=>by
  rcases List.mem_append.1 hn with hn | hn
  ·have:=h.some_ n hn hl
   obtain⟨d,hd⟩:=Option.isSome_iff_exists.1 this
   simp[k.mono n d hd]
  ·exact k.some_ n hn hl
 good:=fun hs=>by
  obtain⟨h1,h2⟩:=k.good hs
  obtain⟨h3,h4⟩:=h.good h1
  refine⟨h3,fun t ht=>?_⟩
  rcases List.mem_append.1 ht with ht | ht
  ·obtain⟨n,e1,e2,e3⟩:=h4 t ht
   exact⟨n,e1,e2,k.mono _ _ e3⟩
  ·exact h2 t ht
 bad:=fun hs=>by
  rcases k.bad hs with h1 | ⟨t,ht,h1⟩
  ·rcases h.bad h1 with h2 | ⟨t,ht,h2⟩
   ·exact .inl h2
   ·refine .inr ⟨t,List.mem_append.2 (.inl ht),h2.imp id ?_⟩
    rintro⟨n,e1,d,e2,e3⟩
    exact⟨n,e1,d,k.mono _ _ e2,e3⟩
  ·exact .inr ⟨t,List.mem_append.2 (.inr ht),h1⟩
 most:=k.most.trans h.most
theorem Visited.fold (len:Nat) (b:Int):∀ (ts:List Int) (s:VS),Visited len b s (ts.foldl (fun s t=>visitS len t b s) s) ts
 | [],s=>Visited.nil len b s
 | t::ts,s=>(Visited.one len t b s).trans (Visited.fold len b ts (visitS len t b s))
theorem Good.lt {c:List Ins} {D:Nat→Option Int} (h:Good c D) {n:Nat} {d:Int} (e:D n=some d):n < c.length:=by
 obtain⟨x,hx,_⟩:=h.2 n d e
 exact(List.getElem?_eq_some_iff.1 hx).1
theorem Inv.round {c:List Ins} {s:VS} {l:List Nat} {a:Nat} {x:Ins} {d:Int} (h:Inv c s) (hw:s.work=l++[a]) (hx:c[a]?=some x) (hd:s.f a=some d) :
  Inv c (roundS c a x d { s with work:=l }):=by
 have hal:a ∉ l:=by
  have:=h.nodup
  rw[hw] at this
  intro hm
  exact(List.nodup_append.1 this).2.2 a hm a (by simp) rfl
 have hnd:l.Nodup:=by
  have:=h.nodup
  rw[hw] at this
  exact(List.nodup_append.1 this).1
 have hlw:∀ i,i ∉ l→i≠a→i ∉ s.work:=fun i h1 h2=>by rw[hw];simp[h1,h2]
 have hra:=(h.dom a d hd).2
 unfold roundS
 by_cases hv:iV x=true
 ·rw[if_pos hv]
  have V:=Visited.fold c.length (d - iP x+iU x) (iT x a) (markS x d { s with work:=l })
  generalize hs':(iT x a).foldl (fun s t=>visitS c.length t (d - iP x+iU x) s) (markS x d { s with work:=l })=s' at V ⊢
  have m1:(markS x d { s with work:=l }).f=s.f:=rfl
  have m2:(markS x d { s with work:=l }).work=l:=rfl
  have m3:(markS x d { s with work:=l }).most=max s.most (max d (d - iP x+iU x)):=rfl
  have m4:(markS x d { s with work:=l }).sound=if iP x > d ∨ max s.most (max d (d - iP x+iU x)) > 64 then false else s.sound:=rfl
  have hmost:s'.most=max s.most (max d (d - iP x+iU x)):=V.most.trans m3
  have hsnd:s'.sound=true→s.sound=true∧iP x≤d∧max s.most (max d (d - iP x+iU x))≤64:=fun hh=>by
   have:=(V.good hh).1
   rw[m4] at this
   split at this
   ·cases this
   ·exact⟨this,by omega,by omega⟩
  obtain⟨l2,w1,w2,w3,w4⟩:=V.work
  rw[m2] at w1
  have hnew:∀ i e,s'.f i=some e→s.f i=some e ∨ (s.f i=none∧(i:Int)∈iT x a∧i < c.length∧e=d - iP x+iU x):=V.new
  have hforced:s.sound=true→∀ D,Good c D→∀ i e,s'.f i=some e→D i=some e:=fun hh D hD i e he=>by
   rcases hnew i e he with h1 | ⟨_,h2,_,h4⟩
   ·exact h.forced hh D hD i e h1
   ·obtain⟨x',hx',_,_,_,ht⟩:=hD.2 a d (h.forced hh D hD a d hd)
    rw[hx] at hx'
    cases hx'
    obtain⟨n,e1,e2⟩:=ht _ h2
    have:i=n:=by omega
    rw[this,e2,h4]
  refine { zero:=V.mono _ _ h.zero,dom:=fun i e he=>?_,work:=fun i hi=>?_,nodup:=?_,closed:=fun i e y he hn hy n ht hl=>?_,done:=fun hh i e he hn=>?_,forced:=fun hh=>hforced (hsnd hh).1,le64:=fun hh i e he=>?_,bad:=fun hh D hD=>?_,most0:=?_,most64:=fun hh=>?_,mostIs:=fun hh=>?_ }
  ·rcases hnew i e he with h1 | ⟨_,h2,h3,_⟩
   ·exact h.dom i e h1
   ·exact⟨h3,.step hra hx h2 h3⟩
  ·rw[w1] at hi
   rcases List.mem_append.1 hi with hi | hi
   ·obtain⟨e,he⟩:=h.work i (by rw[hw];simp[hi])
    exact⟨e,V.mono _ _ he⟩
   ·exact⟨_,(w3 i hi).2⟩
  ·rw[w1]
   refine List.nodup_append.2 ⟨hnd,w2,fun i hi j hj=>?_⟩
   rintro rfl
   obtain⟨e,he⟩:=h.work i (by rw[hw];simp[hi])
   have:=(w3 i hj).1
   rw[m1,he] at this
   cases this
  ·have hsi:s.f i=some e:=by
    rcases hnew i e he with h1 | ⟨h1,_⟩
    ·exact h1
    ·exact absurd (w4 i e he h1) (fun hm=>hn (by rw[w1];simp[hm]))
   by_cases hia:i=a
   ·subst hia
    rw[hx] at hy
    cases hy
    exact V.some_ n ht hl
   ·obtain⟨e',he'⟩:=Option.isSome_iff_exists.1 (h.closed i e y hsi (hlw i (fun hm=>hn (by rw[w1];simp[hm])) hia) hy n ht hl)
    simp[V.mono _ _ he']
  ·obtain⟨q1,q2,q3⟩:=hsnd hh
   have hsi:s.f i=some e:=by
    rcases hnew i e he with h1 | ⟨h1,_⟩
    ·exact h1
    ·exact absurd (w4 i e he h1) (fun hm=>hn (by rw[w1];simp[hm]))
   by_cases hia:i=a
   ·subst hia
    rw[hd] at hsi
    cases hsi
    refine⟨x,hx,hv,q2,by omega,by omega,by omega,fun t ht=>?_⟩
    obtain⟨n,e1,_,e3⟩:=(V.good hh).2 t ht
    exact⟨n,e1,e3⟩
   ·obtain⟨y,y1,y2,y3,y4,y5,y6,y7⟩:=h.done q1 i e hsi (hlw i (fun hm=>hn (by rw[w1];simp[hm])) hia)
    refine⟨y,y1,y2,y3,y4,by omega,by omega,fun t ht=>?_⟩
    obtain⟨n,e1,e2⟩:=y7 t ht
    exact⟨n,e1,V.mono _ _ e2⟩
  ·obtain⟨q1,q2,q3⟩:=hsnd hh
   rcases hnew i e he with h1 | ⟨_,_,_,h4⟩
   ·exact h.le64 q1 i e h1
   ·omega
  ·cases hs0:s.sound with
   | false=>exact h.bad hs0 D hD
   | true =>
    obtain⟨x',hx',g1,g2,g3,g4⟩:=hD.2 a d (h.forced hs0 D hD a d hd)
    rw[hx] at hx'
    cases hx'
    have hd64:=h.le64 hs0 a d hd
    have hm64:=h.most64 hs0
    rcases V.bad hh with hb | ⟨t,ht,hb⟩
    ·rw[m4,if_neg (by omega),hs0] at hb
     cases hb
    ·obtain⟨n,e1,e2⟩:=g4 t ht
     have hn:=hD.lt e2
     rcases hb with hb | ⟨n',f1,d',f2,f3⟩
     ·omega
     ·have:n=n':=by omega
      subst this
      have:=hforced hs0 D hD n d' f2
      rw[e2] at this
      exact f3 (Option.some.inj this).symm
  ·have:=h.most0;omega
  ·obtain⟨q1,q2,q3⟩:=hsnd hh;omega
  ·obtain⟨q1,q2,q3⟩:=hsnd hh
   rcases h.mostIs q1 with h0 | ⟨i,e,y,y1,y2,y3⟩
   ·by_cases hc:s'.most=0
    ·exact .inl hc
    ·refine .inr ⟨a,d,x,V.mono _ _ hd,hx,by omega⟩
   ·by_cases hc:s'.most=s.most
    ·exact .inr ⟨i,e,y,V.mono _ _ y1,y2,by omega⟩
    ·exact .inr ⟨a,d,x,V.mono _ _ hd,hx,by omega⟩
 ·rw[if_neg hv]
  refine { zero:=h.zero,dom:=h.dom,work:=fun i hi=>h.work i (by rw[hw];simp[show i∈l from hi]),nodup:=hnd,closed:=fun i e y he hn hy n ht hl=>?_,done:=fun hh=>by simp at hh,forced:=fun hh=>by simp at hh,le64:=fun hh=>by simp at hh,bad:=fun _ D hD=>?_,most0:=h.most0,most64:=fun hh=>by simp at hh,mostIs:=fun hh=>by simp at hh }
  ·by_cases hia:i=a
   ·subst hia
    rw[hx] at hy
    cases hy
    simp only[Bool.not_eq_true] at hv
    have:iT x i=[]:=by unfold iT targetsI;unfold iV at hv;simp[hv]
    rw[this] at ht
    cases ht
   ·exact h.closed i e y he (hlw i hn hia) hy n ht hl
  ·cases hs0:s.sound with
   | false=>exact h.bad hs0 D hD
   | true =>
    obtain⟨x',hx',g1,_⟩:=hD.2 a d (h.forced hs0 D hD a d hd)
    rw[hx] at hx'
    cases hx'
    exact hv g1
/-- what the visits come to at the end -/
structure Fin (c:List Ins) (f:Nat→Option Int) (sound:Bool) (most:Int):Prop where
 reach:∀ i,(f i).isSome=true↔Reach c i
 good:sound=true→Good c f
 forced:sound=true→∀ D,Good c D→∀ i d,f i=some d→D i=some d
 bad:sound=false→∀ D,¬ Good c D
 lt:∀ i d,f i=some d→i < c.length
 most0:0≤most
 most64:sound=true→most≤64
 mostLe:sound=true→∀ i d x,f i=some d→c[i]?=some x→d≤most∧d - iP x+iU x≤most
 mostIs:sound=true→most=0 ∨ ∃ i d x,f i=some d∧c[i]?=some x∧(most=d ∨ most=d - iP x+iU x)
end
section
open Go.RowKit Go.Maps
section
variable {P:Program} {k e t:TypeId} {w w':World} {b n:Nat} {f:Int→Option Int}
/-- Block b is a map of at most n entries that maps as f says. -/
def MapI (P:Program) (k e:TypeId) (w:World) (b n:Nat) (f:Int→Option Int):Prop :=
 ∃ D:DataW Unit,w.ownsMap P k (plainElem P e) b n D∧∀ x,(Lit.int .i64 x).wf=true→Maps.has D (.int .i64 x)=(f x).isSome∧D.atKey (.int .i64 x) (.lit (.int .i64 0))=.lit (.int .i64 ((f x).getD 0))
theorem MapI.drewN (h:MapI P k e w b n f) (i:Nat):MapI P k e (w.drewN i) b n f:=h
theorem MapI.block (h:MapI P k e w b n f) (hb:w'.heap[b]?=w.heap[b]?):MapI P k e w' b n f:=by
 obtain⟨D,⟨es,clock,h1,h2⟩,h3⟩:=h
 exact⟨D,⟨es,clock,hb.trans h1,h2⟩,h3⟩
variable (hk:P.underlying k=some (.int .i64)) (he:P.underlying e=some (.int .i64)) (ht:P.underlying t=some (.map k e)) (hz:∀ w,(zeroValue e).run P w=.ok (.int .i64 0) w)
include hk he ht
include hz
end
end
section
open Go.RowKit Go.Maps
section
variable {w:World} {N:Nat} {v0 v1 v2 v4:Value} {A:Option Addr} {len cap:Nat} {s:VS}
theorem own_ne {base e size n:Nat} {w:World} {v:Value} {xs:List Value} (h:w.ownsRow base e size v n xs) {g:Nat} (hg:g < base):some g≠v.ownBlock:=by
 intro hh
 have:=(h.lt g hh.symm).1
 omega
end
end
section
open Go.RowKit Go.Maps
def insCells (x:Ins):List Value:=[.int .i64 x.1,.int .i64 x.2.1,.int .i64 x.2.2]
def codeCells (c:List Ins):List Value:=c.flatMap insCells
theorem codeCells_length (c:List Ins):(codeCells c).length=c.length*3:=by
 induction c with
 | nil=>rfl
 | cons x c ih=>simp[codeCells,insCells] at ih ⊢;omega
theorem codeCells_get (c:List Ins) (i:Nat) (x:Ins) (h:c[i]?=some x):(codeCells c)[i*3]?=some (.int .i64 x.1)∧(codeCells c)[i*3+1]?=some (.int .i64 x.2.1)∧(codeCells c)[i*3+2]?=some (.int .i64 x.2.2):=by
 induction c generalizing i with
 | nil=>simp at h
 | cons y c ih =>
  cases i with
  | zero=>simp at h;subst h;exact⟨rfl,rfl,rfl⟩
  | succ i =>
   have:=ih i (by simpa using h)
   have e:codeCells (y::c)=insCells y++codeCells c:=by simp[codeCells]
   rw[e]
   have el:(insCells y).length=3:=rfl
   refine⟨?_,?_,?_⟩ <;> rw[List.getElem?_append_right (by omega),el]
   ·rw[show(i+1)*3 - 3=i*3 by omega];exact this.1
   ·rw[show(i+1)*3+1 - 3=i*3+1 by omega];exact this.2.1
   ·rw[show(i+1)*3+2 - 3=i*3+2 by omega];exact this.2.2
theorem Fin.nil:Fin [] (fun _=>none) false 0 where
 reach:=fun i=>⟨fun h=>(by cases h),fun h=>(by cases h with | zero h=>cases h | step _ h _ _=>cases h)⟩
 good:=fun h=>by cases h
 forced:=fun h=>by cases h
 bad:=fun _ D h=>by
  obtain⟨x,hx,_⟩:=h.2 0 0 h.1
  cases hx
 lt:=fun i d h=>by cases h
 most0:=Int.le_refl _
 most64:=fun h=>by cases h
 mostLe:=fun h=>by cases h
 mostIs:=fun h=>by cases h
section
variable {w:World} {v0 v1 v2 v4:Value} {A:Option Addr} {len cap:Nat}
end
end
section
open Go.RowKit
structure Mth where
 nm:ByteArray
 p:Int
 l:Int
 code:List Ins
 names:List ByteArray
structure Cls where
 nm:ByteArray
 actor:Bool
 fields:List ByteArray
 ms:List Mth
def txtCells (l:List ByteArray):List Value:=l.map Value.string
/-- the slice at A with n elements of s cells reads as xs, each in the way of R -/
def SlR {α:Type} (R:World→α→List Value→Prop) (w:World) (s:Nat) (A:Option Addr) (n:Nat) (xs:List α):Prop :=
 xs.length=n∧(n=0 ∨ ∃ b o,A=some ⟨b,o,none⟩∧b < w.heap.size∧∀ i x,xs[i]?=some x→∃ r:List Value,r.length=s∧R w x r∧∀ j v,r[j]?=some v→w.cell? ⟨b,o+i*s+j,none⟩=some v)
theorem SlR.nil {α:Type} (R:World→α→List Value→Prop) (w:World) (s:Nat) (A:Option Addr):SlR R w s A 0 []:=⟨rfl,.inl rfl⟩
theorem SlR.get {α:Type} {R:World→α→List Value→Prop} {w:World} {s n:Nat} {A:Option Addr} {xs:List α} (h:SlR R w s A n xs) {k:Nat} (hk:k < n) :
  ∃ b o x r,A=some ⟨b,o,none⟩∧b < w.heap.size∧xs[k]?=some x∧r.length=s∧R w x r∧∀ j v,r[j]?=some v→w.cell? ⟨b,o+k*s+j,none⟩=some v:=by
 rcases h.2 with h0 | ⟨b,o,hA,hb,hc⟩
 ·omega
 ·obtain⟨x,hx⟩:∃ x,xs[k]?=some x:=⟨_,List.getElem?_eq_getElem (by rw[h.1];exact hk)⟩
  obtain⟨r,h1,h2,h3⟩:=hc k x hx
  exact⟨b,o,x,r,hA,hb,hx,h1,h2,h3⟩
theorem SlR.keep {α:Type} {R:World→α→List Value→Prop} {w w':World} {s n:Nat} {A:Option Addr} {xs:List α} (h:SlR R w s A n xs) (hs:w.heap.size≤w'.heap.size)
  (hk:∀ b o v,w.cell? ⟨b,o,none⟩=some v→w'.cell? ⟨b,o,none⟩=some v) (hR:∀ x r,R w x r→R w' x r):SlR R w' s A n xs:=by
 refine⟨h.1,?_⟩
 rcases h.2 with h0 | ⟨b,o,hA,hb,hc⟩
 ·exact .inl h0
 ·refine .inr ⟨b,o,hA,by omega,fun i x hx=>?_⟩
  obtain⟨r,h1,h2,h3⟩:=hc i x hx
  exact⟨r,h1,hR x r h2,fun j v hv=>hk _ _ _ (h3 j v hv)⟩
def insWf (c:List Ins):Prop:=∀ x∈c,(Lit.int .i64 x.1).wf=true∧(Lit.int .i64 x.2.1).wf=true∧(Lit.int .i64 x.2.2).wf=true
/-- what a method that came in can be -/
structure Mth.ok (m:Mth):Prop where
 p:(Lit.int .i64 m.p).wf=true
 l:(Lit.int .i64 m.l).wf=true
 code:insWf m.code
 nm:m.nm.size≤140737488351232
 names:∀ s∈m.names,s.size≤140737488351232
 lc:m.code.length≤140737488351232
 ln:m.names.length≤140737488351232
structure Cls.ok (k:Cls):Prop where
 nm:k.nm.size≤140737488351232
 fields:∀ s∈k.fields,s.size≤140737488351232
 lf:k.fields.length≤140737488351232
 lm:k.ms.length≤140737488351232
def MthR (w:World) (m:Mth) (r:List Value):Prop :=
 m.ok∧∃ A c B d,r=[.string m.nm,.int .i64 m.p,.int .i64 m.l,.slice A m.code.length c,.slice B m.names.length d]∧m.code.length≤c∧Sl w 3 A m.code.length (codeCells m.code)∧m.names.length≤d∧Sl w 1 B m.names.length (txtCells m.names)
def ClsR (w:World) (k:Cls) (r:List Value):Prop :=
 k.ok∧∃ F c M d,r=[.string k.nm,.bool k.actor,.slice F k.fields.length c,.slice M k.ms.length d]∧k.fields.length≤c∧Sl w 1 F k.fields.length (txtCells k.fields)∧k.ms.length≤d∧SlR MthR w 5 M k.ms.length k.ms
def CodeR (w:World) (cs:List Cls) (A:Option Addr) (n c:Nat):Prop:=cs.length=n∧n≤c∧n≤140737488351232∧SlR ClsR w 4 A n cs
theorem MthR.keep {w w':World} (hs:w.heap.size≤w'.heap.size) (hk:∀ b o v,w.cell? ⟨b,o,none⟩=some v→w'.cell? ⟨b,o,none⟩=some v) (m:Mth) (r:List Value) (h:MthR w m r):MthR w' m r :=
 let ⟨h0,A,c,B,d,h1,h2,h3,h4,h5⟩:=h;⟨h0,A,c,B,d,h1,h2,h3.keep hs hk,h4,h5.keep hs hk⟩
theorem ClsR.keep {w w':World} (hs:w.heap.size≤w'.heap.size) (hk:∀ b o v,w.cell? ⟨b,o,none⟩=some v→w'.cell? ⟨b,o,none⟩=some v) (k:Cls) (r:List Value) (h:ClsR w k r):ClsR w' k r :=
 let ⟨h0,F,c,M,d,h1,h2,h3,h4,h5⟩:=h;⟨h0,F,c,M,d,h1,h2,h3.keep hs hk,h4,h5.keep hs hk (MthR.keep hs hk)⟩
theorem keep_below {w w':World} (hb:Below w.heap.size w w'):∀ b o v,w.cell? ⟨b,o,none⟩=some v→w'.cell? ⟨b,o,none⟩=some v:=fun b o v hv=>(hb.cell (p:=⟨b,o,none⟩) (cell_lt hv)).trans hv
theorem CodeR.below {w w':World} {cs:List Cls} {A:Option Addr} {n c:Nat} (h:CodeR w cs A n c) (hb:Below w.heap.size w w'):CodeR w' cs A n c :=
 ⟨h.1,h.2.1,h.2.2.1,h.2.2.2.keep hb.size (keep_below hb) (ClsR.keep hb.size (keep_below hb))⟩
theorem MthR.below {w w':World} {m:Mth} {r:List Value} (h:MthR w m r) (hb:Below w.heap.size w w'):MthR w' m r:=MthR.keep hb.size (keep_below hb) m r h
theorem ClsR.below {w w':World} {m:Cls} {r:List Value} (h:ClsR w m r) (hb:Below w.heap.size w w'):ClsR w' m r:=ClsR.keep hb.size (keep_below hb) m r h
theorem SlR.mths {w w':World} {A:Option Addr} {n:Nat} {ms:List Mth} (h:SlR MthR w 5 A n ms) (hb:Below w.heap.size w w'):SlR MthR w' 5 A n ms:=h.keep hb.size (keep_below hb) (MthR.keep hb.size (keep_below hb))
theorem SlR.clss {w w':World} {A:Option Addr} {n:Nat} {ms:List Cls} (h:SlR ClsR w 4 A n ms) (hb:Below w.heap.size w w'):SlR ClsR w' 4 A n ms:=h.keep hb.size (keep_below hb) (ClsR.keep hb.size (keep_below hb))
/-- the bounds that a small program meets -/
structure Mth.few (m:Mth) (most:Nat):Prop where
 code:m.code.length≤most
 names:m.names.length≤most
 nm:m.nm.size < 200
 each:∀ s∈m.names,s.size < 200
structure Cls.few (k:Cls) (most:Nat):Prop where
 nm:k.nm.size < 200
 fields:k.fields.length≤most
 ms:k.ms.length≤most
 each:∀ s∈k.fields,s.size < 200
 mths:∀ m∈k.ms,m.few most
def fewP (cs:List Cls) (most:Nat):Prop:=cs.length≤most∧∀ k∈cs,k.few most
end
end Go.Proofs.YtmbnlccafcfbeaaDoor
