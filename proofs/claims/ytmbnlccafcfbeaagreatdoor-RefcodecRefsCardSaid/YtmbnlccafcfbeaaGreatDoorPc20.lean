/- Parts of the proof: RcY. -/
import Derived.Test.YtmbnlccafcfbeaaGreatDoorPcA
import Derived.Test.YtmbnlccafcfbeaaGreatDoorPc19
set_option linter.unusedVariables false
set_option linter.unusedSimpArgs false
set_option linter.unusedSectionVars false
set_option maxRecDepth 100000
namespace Go.Proofs.YtmbnlccafcfbeaaGreatDoor
section
open Go.RowKit
attribute [local go_sem] Oper.semAt_some
theorem bkset8 {w:World} {g:Nat} {t:TypeId} {u0 u1 u2 u3 u4 u5 u6 u7:Value} (h:Bk w g t #[u0,u1,u2,u3,u4,u5,u6,u7]) (v0 v1 v2 v3 v4 v5 v6 v7:Value):Bk (((((((((w).setCell ⟨g,0,none⟩ (v0)).setCell ⟨g,1,none⟩ (v1)).setCell ⟨g,2,none⟩ (v2)).setCell ⟨g,3,none⟩ (v3)).setCell ⟨g,4,none⟩ (v4)).setCell ⟨g,5,none⟩ (v5)).setCell ⟨g,6,none⟩ (v6)).setCell ⟨g,7,none⟩ (v7)) g t #[v0,v1,v2,v3,v4,v5,v6,v7]:=by
 simpa using ((((((((h.set 0 (v0)).set 1 (v1)).set 2 (v2)).set 3 (v3)).set 4 (v4)).set 5 (v5)).set 6 (v6)).set 7 (v7))
theorem kpset8 {w:World} {g:Nat} (v0 v1 v2 v3 v4 v5 v6 v7:Value):Kp (fun k=>k=g) w (((((((((w).setCell ⟨g,0,none⟩ (v0)).setCell ⟨g,1,none⟩ (v1)).setCell ⟨g,2,none⟩ (v2)).setCell ⟨g,3,none⟩ (v3)).setCell ⟨g,4,none⟩ (v4)).setCell ⟨g,5,none⟩ (v5)).setCell ⟨g,6,none⟩ (v6)).setCell ⟨g,7,none⟩ (v7)) :=
 ((((((((Kp.refl _ _).trans (Kp.setCell (S:=fun k=>k=g) _ ⟨g,0,none⟩ v0 rfl) (fun _ _ h=>h)).trans (Kp.setCell (S:=fun k=>k=g) _ ⟨g,1,none⟩ v1 rfl) (fun _ _ h=>h)).trans (Kp.setCell (S:=fun k=>k=g) _ ⟨g,2,none⟩ v2 rfl) (fun _ _ h=>h)).trans (Kp.setCell (S:=fun k=>k=g) _ ⟨g,3,none⟩ v3 rfl) (fun _ _ h=>h)).trans (Kp.setCell (S:=fun k=>k=g) _ ⟨g,4,none⟩ v4 rfl) (fun _ _ h=>h)).trans (Kp.setCell (S:=fun k=>k=g) _ ⟨g,5,none⟩ v5 rfl) (fun _ _ h=>h)).trans (Kp.setCell (S:=fun k=>k=g) _ ⟨g,6,none⟩ v6 rfl) (fun _ _ h=>h)).trans (Kp.setCell (S:=fun k=>k=g) _ ⟨g,7,none⟩ v7 rfl) (fun _ _ h=>h)
def drf (l:List Int):Rf × Int:=if (decRf ⟨l,0⟩).2.e=0∧(decRf ⟨l,0⟩).2.b=[]∧rfV (decRf ⟨l,0⟩).1=true then ((decRf ⟨l,0⟩).1,0) else (Rf.zero,11)
section
variable {w:World} {A:Option Addr} {c:Nat} {l:List Int}
set_option maxHeartbeats 8000000 in
theorem DecodeRef_any (h:Sl w 1 A l.length (byts l)) (hc:l.length≤c) (h8:B8 l) (hl:l.length≤2147483648):Calls Tryz.prog 22 #[.slice A l.length c] w fun e w'=>e=.returned (.tuple #[.agg (rfC (drf l).1).toArray,.int .i64 (drf l).2])∧Below w.heap.size w w':=by
 obtain⟨w0,hw0⟩:∃ w0,w0=w.alloc (.cells #[.int .i64 0,.int .i64 0,.int .i64 0,.int .u64 0,.int .i64 0,.int .i64 0,.int .i64 0,.bool false] 26):=⟨_,rfl⟩
 obtain⟨g0,hg0⟩:∃ g0,g0=w.heap.size:=⟨_,rfl⟩
 have hb0:Below w.heap.size w w0:=by rw[hw0];exact below_one _ _
 have hr0:Bk w0 g0 26 #[.int .i64 0,.int .i64 0,.int .i64 0,.int .u64 0,.int .i64 0,.int .i64 0,.int .i64 0,.bool false]:=by rw[hw0,hg0];exact Bk.new _ _ _
 have hz0:w0.heap.size=g0+1:=by rw[hw0,hg0];simp
 have cN:=NewReader_any (c:=c) (h.below hb0) h8 (by omega) (by omega)
 have H0:=lh (And.intro hb0 (And.intro hr0 (And.intro hz0 hg0)))
 have HS:=lh (And.intro h (And.intro hc (And.intro h8 hl)))
 obtain⟨T,hT⟩:∃ T:Rf × Int,T=drf l:=⟨_,rfl⟩
 rw[← hT]
 have HT:=lh hT
 clear h hc h8 hl hb0 hr0 hz0 hT
 go_enter Tryz.func22,Tryz.ntmps22
 go_upto_region 1 with fail
 rw[← hw0,← hg0]
 clear hw0 hg0
 go_wp2_with fail
 refine cN.mono ?_
 rintro e w1 ⟨g,bb,rfl,hbg,hwg,hx1,hb1⟩
 obtain⟨w2,hw2⟩:∃ w2,w2=w1.alloc (.cells #[.slice none 0 0,.pointer (some ⟨g,0,none⟩)] 82):=⟨_,rfl⟩
 obtain⟨gf,hgf⟩:∃ gf,gf=w1.heap.size:=⟨_,rfl⟩
 obtain⟨w3,hw3⟩:∃ w3,w3=w2.alloc (.cells #[.int .i64 0,.int .i64 0,.int .i64 0,.int .u64 0,.int .i64 0,.int .i64 0,.int .i64 0,.bool false] 26):=⟨_,rfl⟩
 obtain⟨xr,hxr⟩:∃ xr,xr=w2.heap.size:=⟨_,rfl⟩
 have hb2:Below w1.heap.size w1 w2:=by rw[hw2];exact below_one _ _
 have hb3:Below w2.heap.size w2 w3:=by rw[hw3];exact below_one _ _
 have hf2:Bk w2 gf 82 #[.slice none 0 0,.pointer (some ⟨g,0,none⟩)]:=by rw[hw2,hgf];exact Bk.new _ _ _
 have hx3:Bk w3 xr 26 (rfC Rf.zero).toArray:=by rw[hw3,hxr];exact Bk.new _ _ _
 have hgl:g < w1.heap.size:=by obtain⟨cs,hcs⟩:=hx1.bkq;exact hcs.lt
 have hz2:w2.heap.size=gf+1:=by rw[hw2,hgf];simp
 have hr3:=((H0.out.2.1.below hb1 H0.out.2.1.lt).below hb2 (Nat.lt_of_lt_of_le H0.out.2.1.lt hb1.size)).below hb3 (by have:=H0.out.2.1.lt;have:=hb1.size;have:=hb2.size;omega)
 have HN:Hid (g0 < g∧bb < g∧g < gf∧gf < xr):=lh (by have:=H0.out.2.2.1;omega)
 have HB3:Hid (Below w.heap.size w w3):=lh (H0.out.1.trans (((hb1.trans (hb2.mono hb1.size)).trans (hb3.mono (Nat.le_trans hb1.size hb2.size))).mono (by have:=H0.out.2.2;omega)))
 have cM:=ref_any (E:=⟨gf,g,bb⟩) (N:=fun _=>False) (x:=Rf.zero) (s:=.r ⟨l,0⟩) (t:=26) (b:=xr) (pre:=[]) (post:=[]) (o:=0) (Fm.read (E:=⟨gf,g,bb⟩) (hf2.below hb3 hf2.lt) ((hx1.below hb2).below hb3) (show g < gf by have:=HN.out;omega) (show bb < w3.heap.size by have:=hb2.size;have:=hb3.size;have:=HN.out;omega)) (Hd.rbox (E:=⟨gf,g,bb⟩) hx3 (by have:=HN.out;show xr≠gf;omega) (by have:=HN.out;show xr≠g;omega) (by have:=HN.out;show xr≠bb;omega)) rfl (by refine⟨?_,?_,?_,?_,?_,?_,?_⟩ <;> simp[Rf.zero,I64,P64]) trivial
 have hs:stp encRf decRf (.r ⟨l,0⟩) Rf.zero=(.r (decRf ⟨l,0⟩).2,(decRf ⟨l,0⟩).1):=rfl
 rw[hs] at cM
 dsimp only at cM
 obtain⟨⟨y,rd⟩,hy⟩:∃ p,p=decRf ⟨l,0⟩:=⟨_,rfl⟩
 rw[← hy] at cM
 dsimp only at cM
 have hty:T=if rd.e=0∧rd.b=[]∧rfV y=true then (y,0) else (Rf.zero,11):=by rw[HT.out];unfold drf;rw[← hy]
 have HY:=lh (And.intro hty hy)
 have HR3:=lh hr3
 have hxe:xr=gf+1:=by rw[hxr,hz2]
 clear hs hy hty hr3 hx3 hf2 hb2 hb3 hx1 hb1 hgl hbg hwg cN hz2
 go_upto_region 3 with fail
 rw[← hgf,← hw2,← hw3,← hxe]
 clear hw2 hw3 hgf hxr hxe
 go_wp2_with fail
 refine cM.mono ?_
 rintro e w4 ⟨rfl,hF4,hH4,hfr4⟩
 have hx4:=hH4.bk
 have hk4:Kp (fun k=>k=g ∨ k=xr) w3 w4:=by
  have:=hfr4
  unfold Fr at this
  rw[show(Fs.r ⟨l,0⟩).md=false from rfl,frS_false] at this
  exact this
 have hr4:=HR3.out.kp hk4 (fun h=>by have:=HN.out;omega)
 have f1:w4.cell? ⟨gf,1,none⟩=some (.pointer (some ⟨g,0,none⟩)):=hF4.1.cell 1
 have cD:=Done_any hF4.2.1
 have HB4:Hid (Below w.heap.size w w4):=lh (hk4.toBelow HB3.out HB3.out.size fun k h=>by have:=HN.out;have:=H0.out.2.2.2;omega)
 have H4:=lh (And.intro hF4 (And.intro hx4 hr4))
 obtain⟨dn,hdn⟩:∃ dn,dn=(if rd.e=0∧rd.b≠[] then 11 else rd.e):=⟨_,rfl⟩
 rw[← hdn] at cD
 have HDN:=lh hdn
 clear cM hF4 hH4 hfr4 hx4 hk4 hr4 hdn
 go_wp2_with fail
 refine cD.mono ?_
 rintro e w5 ⟨rfl,rfl⟩
 clear cD
 have r0:w4.cell? ⟨g0,0,none⟩=some (.int .i64 0):=H4.out.2.2.cell 0
 have r1:w4.cell? ⟨g0,1,none⟩=some (.int .i64 0):=H4.out.2.2.cell 1
 have r2:w4.cell? ⟨g0,2,none⟩=some (.int .i64 0):=H4.out.2.2.cell 2
 have r3:w4.cell? ⟨g0,3,none⟩=some (.int .u64 0):=H4.out.2.2.cell 3
 have r4:w4.cell? ⟨g0,4,none⟩=some (.int .i64 0):=H4.out.2.2.cell 4
 have r5:w4.cell? ⟨g0,5,none⟩=some (.int .i64 0):=H4.out.2.2.cell 5
 have r6:w4.cell? ⟨g0,6,none⟩=some (.int .i64 0):=H4.out.2.2.cell 6
 have r7:w4.cell? ⟨g0,7,none⟩=some (.bool false):=H4.out.2.2.cell 7
 have e0:∀ j,w4.frozen? ⟨g0,j,none⟩=false:=fun j=>H4.out.2.2.free j
 by_cases hz:dn=0
 ·have hrb:rd.e=0∧rd.b=[]:=by
   rw[HDN.out] at hz
   split at hz
   ·exact absurd hz (by decide)
   ·rename_i h
    refine⟨hz,?_⟩
    by_cases hb:rd.b=[]
    ·exact hb
    ·exact absurd ⟨hz,hb⟩ h
  subst hz
  have hbw:=codRf.bw ⟨l,0⟩ HS.out.2.2.1 (by rw[← HY.out.2];exact hrb.1)
  rw[← HY.out.2] at hbw
  dsimp only at hbw
  rw[hrb.2,List.append_nil] at hbw
  have HBW:=lh hbw
  have hT2:T=if rfV y=true then (y,0) else (Rf.zero,11):=by rw[HY.out.1];simp[hrb]
  have cV:=Vref_any w4 y
  have y0:w4.cell? ⟨xr,0,none⟩=some (.int .i64 y.kind):=H4.out.2.1.cell 0
  have y1:w4.cell? ⟨xr,1,none⟩=some (.int .i64 y.int):=H4.out.2.1.cell 1
  have y2:w4.cell? ⟨xr,2,none⟩=some (.int .i64 y.owner):=H4.out.2.1.cell 2
  have y3:w4.cell? ⟨xr,3,none⟩=some (.int .u64 y.number):=H4.out.2.1.cell 3
  have y4:w4.cell? ⟨xr,4,none⟩=some (.int .i64 y.idm):=H4.out.2.1.cell 4
  have y5:w4.cell? ⟨xr,5,none⟩=some (.int .i64 y.ids):=H4.out.2.1.cell 5
  have y6:w4.cell? ⟨xr,6,none⟩=some (.int .i64 y.cls):=H4.out.2.1.cell 6
  have y7:w4.cell? ⟨xr,7,none⟩=some (.bool y.weak):=H4.out.2.1.cell 7
  clear hrb hbw
  cases hv:rfV y with
  | false =>
   rw[hv] at cV hT2
   have HTE:=lh (show T=(Rf.zero,11) from hT2)
   clear hT2 hv
   go_wp2_with fail
   refine cV.mono ?_
   rintro e w5 ⟨rfl,hb5⟩
   have HR5:=lh (H4.out.2.2.below hb5 H4.out.2.2.lt)
   have HB5:=lh (HB4.out.trans (hb5.mono HB4.out.size))
   clear cV hb5 r0 r1 r2 r3 r4 r5 r6 r7 e0 y0 y1 y2 y3 y4 y5 y6 y7
   have r0:w5.cell? ⟨g0,0,none⟩=some (.int .i64 0):=HR5.out.cell 0
   have r1:w5.cell? ⟨g0,1,none⟩=some (.int .i64 0):=HR5.out.cell 1
   have r2:w5.cell? ⟨g0,2,none⟩=some (.int .i64 0):=HR5.out.cell 2
   have r3:w5.cell? ⟨g0,3,none⟩=some (.int .u64 0):=HR5.out.cell 3
   have r4:w5.cell? ⟨g0,4,none⟩=some (.int .i64 0):=HR5.out.cell 4
   have r5:w5.cell? ⟨g0,5,none⟩=some (.int .i64 0):=HR5.out.cell 5
   have r6:w5.cell? ⟨g0,6,none⟩=some (.int .i64 0):=HR5.out.cell 6
   have r7:w5.cell? ⟨g0,7,none⟩=some (.bool false):=HR5.out.cell 7
   have e0:∀ j,w5.frozen? ⟨g0,j,none⟩=false:=fun j=>HR5.out.free j
   go_wp2_with fail
   clear r0 r1 r2 r3 r4 r5 r6 r7
   try simp only[Exit.inBlock,Exit.then]
   have hbk:=bkset8 (HR5.out) (.int .i64 0) (.int .i64 0) (.int .i64 0) (.int .u64 0) (.int .i64 0) (.int .i64 0) (.int .i64 0) (.bool false)
   have r0:=hbk.cell 0
   have r1:=hbk.cell 1
   have r2:=hbk.cell 2
   have r3:=hbk.cell 3
   have r4:=hbk.cell 4
   have r5:=hbk.cell 5
   have r6:=hbk.cell 6
   have r7:=hbk.cell 7
   simp only[List.getElem?_toArray,List.getElem?_cons_zero,List.getElem?_cons_succ] at r0 r1 r2 r3 r4 r5 r6 r7
   refine bodyPost_ret (v:=.tuple #[.agg #[.int .i64 0,.int .i64 0,.int .i64 0,.int .u64 0,.int .i64 0,.int .i64 0,.int .i64 0,.bool false],.int .i64 11]) (by simp[results,Tryz.results22,r0,r1,r2,r3,r4,r5,r6,r7,go_sem]) rfl ?_
   rw[HTE.out]
   exact⟨rfl,(kpset8 (.int .i64 0) (.int .i64 0) (.int .i64 0) (.int .u64 0) (.int .i64 0) (.int .i64 0) (.int .i64 0) (.bool false)).toBelow HB5.out HB5.out.size fun k e=>by have:=H0.out.2.2.2;omega⟩
  | true =>
   rw[hv,if_pos rfl] at hT2
   rw[hv] at cV
   have HTE:=lh hT2
   have HV:=lh hv
   clear hT2 hv
   go_wp2_with fail
   refine cV.mono ?_
   rintro e w5 ⟨rfl,hb5⟩
   have hr5:=H4.out.2.2.below hb5 H4.out.2.2.lt
   have hx5:=H4.out.2.1.below hb5 H4.out.2.1.lt
   have H5:=lh (And.intro hr5 hx5)
   have HB5:=lh (HB4.out.trans (hb5.mono HB4.out.size))
   have z0:w5.cell? ⟨xr,0,none⟩=some (.int .i64 y.kind):=hx5.cell 0
   have z1:w5.cell? ⟨xr,1,none⟩=some (.int .i64 y.int):=hx5.cell 1
   have z2:w5.cell? ⟨xr,2,none⟩=some (.int .i64 y.owner):=hx5.cell 2
   have z3:w5.cell? ⟨xr,3,none⟩=some (.int .u64 y.number):=hx5.cell 3
   have z4:w5.cell? ⟨xr,4,none⟩=some (.int .i64 y.idm):=hx5.cell 4
   have z5:w5.cell? ⟨xr,5,none⟩=some (.int .i64 y.ids):=hx5.cell 5
   have z6:w5.cell? ⟨xr,6,none⟩=some (.int .i64 y.cls):=hx5.cell 6
   have z7:w5.cell? ⟨xr,7,none⟩=some (.bool y.weak):=hx5.cell 7
   have cE:=EncodeRef_any (w:=w5) HBW.out.2.2
   rw[HV.out,if_pos rfl,← HBW.out.2.1] at cE
   clear cV hb5 r0 r1 r2 r3 r4 r5 r6 r7 e0 y0 y1 y2 y3 y4 y5 y6 y7 hr5 hx5
   go_wp2_with fail
   refine cE.mono ?_
   rintro e w6 ⟨v6,rfl,ho6,hb6⟩
   obtain⟨A6,c6,rfl,_⟩:=own_shape ho6
   have HB6:=lh (HB5.out.trans (hb6.mono HB5.out.size))
   have H6:=lh (And.intro (H5.out.1.below hb6 H5.out.1.lt) (H5.out.2.below hb6 H5.out.2.lt))
   have cQ:=EqBts_any (c:=c6) (d:=c) (own_sl ho6) (HS.out.1.below HB6.out) (own_le ho6) HS.out.2.1 (Nat.le_trans HS.out.2.2.2 (by decide)) (Nat.le_trans HS.out.2.2.2 (by decide))
   rw[decide_eq_true rfl] at cQ
   clear cE ho6 hb6 z0 z1 z2 z3 z4 z5 z6 z7
   go_wp2_with fail
   refine cQ.mono ?_
   rintro e w7 ⟨rfl,hb7⟩
   have hr7:=H6.out.1.below hb7 H6.out.1.lt
   have hx7:=H6.out.2.below hb7 H6.out.2.lt
   have HB7:=lh (HB6.out.trans (hb7.mono HB6.out.size))
   have H7:=lh (And.intro hr7 hx7)
   have z0:w7.cell? ⟨xr,0,none⟩=some (.int .i64 y.kind):=hx7.cell 0
   have z1:w7.cell? ⟨xr,1,none⟩=some (.int .i64 y.int):=hx7.cell 1
   have z2:w7.cell? ⟨xr,2,none⟩=some (.int .i64 y.owner):=hx7.cell 2
   have z3:w7.cell? ⟨xr,3,none⟩=some (.int .u64 y.number):=hx7.cell 3
   have z4:w7.cell? ⟨xr,4,none⟩=some (.int .i64 y.idm):=hx7.cell 4
   have z5:w7.cell? ⟨xr,5,none⟩=some (.int .i64 y.ids):=hx7.cell 5
   have z6:w7.cell? ⟨xr,6,none⟩=some (.int .i64 y.cls):=hx7.cell 6
   have z7:w7.cell? ⟨xr,7,none⟩=some (.bool y.weak):=hx7.cell 7
   have r0:w7.cell? ⟨g0,0,none⟩=some (.int .i64 0):=hr7.cell 0
   have r1:w7.cell? ⟨g0,1,none⟩=some (.int .i64 0):=hr7.cell 1
   have r2:w7.cell? ⟨g0,2,none⟩=some (.int .i64 0):=hr7.cell 2
   have r3:w7.cell? ⟨g0,3,none⟩=some (.int .u64 0):=hr7.cell 3
   have r4:w7.cell? ⟨g0,4,none⟩=some (.int .i64 0):=hr7.cell 4
   have r5:w7.cell? ⟨g0,5,none⟩=some (.int .i64 0):=hr7.cell 5
   have r6:w7.cell? ⟨g0,6,none⟩=some (.int .i64 0):=hr7.cell 6
   have r7:w7.cell? ⟨g0,7,none⟩=some (.bool false):=hr7.cell 7
   have e0:∀ j,w7.frozen? ⟨g0,j,none⟩=false:=fun j=>H7.out.1.free j
   clear cQ hb7 hr7 hx7
   go_wp2_with fail
   clear r0 r1 r2 r3 r4 r5 r6 r7
   try simp only[Exit.inBlock,Exit.then]
   have hbk:=bkset8 (H7.out.1) (.int .i64 y.kind) (.int .i64 y.int) (.int .i64 y.owner) (.int .u64 y.number) (.int .i64 y.idm) (.int .i64 y.ids) (.int .i64 y.cls) (.bool y.weak)
   have r0:=hbk.cell 0
   have r1:=hbk.cell 1
   have r2:=hbk.cell 2
   have r3:=hbk.cell 3
   have r4:=hbk.cell 4
   have r5:=hbk.cell 5
   have r6:=hbk.cell 6
   have r7:=hbk.cell 7
   simp only[List.getElem?_toArray,List.getElem?_cons_zero,List.getElem?_cons_succ] at r0 r1 r2 r3 r4 r5 r6 r7
   refine bodyPost_ret (v:=.tuple #[.agg #[.int .i64 y.kind,.int .i64 y.int,.int .i64 y.owner,.int .u64 y.number,.int .i64 y.idm,.int .i64 y.ids,.int .i64 y.cls,.bool y.weak],.int .i64 0]) (by simp[results,Tryz.results22,r0,r1,r2,r3,r4,r5,r6,r7,go_sem]) rfl ?_
   rw[HTE.out]
   exact⟨rfl,(kpset8 (.int .i64 y.kind) (.int .i64 y.int) (.int .i64 y.owner) (.int .u64 y.number) (.int .i64 y.idm) (.int .i64 y.ids) (.int .i64 y.cls) (.bool y.weak)).toBelow HB7.out HB7.out.size fun k e=>by have:=H0.out.2.2.2;omega⟩
 ·have q0:(dn != 0)=true:=by simpa using hz
  have hTe:T=(Rf.zero,11):=by
   rw[HY.out.1,if_neg]
   rintro⟨a1,a2,_⟩
   rw[HDN.out,if_neg (fun h=>h.2 a2)] at hz
   exact hz a1
  have HTE:=lh hTe
  clear hz hTe
  go_wp2_with fail
  clear r0 r1 r2 r3 r4 r5 r6 r7
  try simp only[Exit.inBlock,Exit.then]
  have hbk:=bkset8 (H4.out.2.2) (.int .i64 0) (.int .i64 0) (.int .i64 0) (.int .u64 0) (.int .i64 0) (.int .i64 0) (.int .i64 0) (.bool false)
  have r0:=hbk.cell 0
  have r1:=hbk.cell 1
  have r2:=hbk.cell 2
  have r3:=hbk.cell 3
  have r4:=hbk.cell 4
  have r5:=hbk.cell 5
  have r6:=hbk.cell 6
  have r7:=hbk.cell 7
  simp only[List.getElem?_toArray,List.getElem?_cons_zero,List.getElem?_cons_succ] at r0 r1 r2 r3 r4 r5 r6 r7
  refine bodyPost_ret (v:=.tuple #[.agg #[.int .i64 0,.int .i64 0,.int .i64 0,.int .u64 0,.int .i64 0,.int .i64 0,.int .i64 0,.bool false],.int .i64 11]) (by simp[results,Tryz.results22,r0,r1,r2,r3,r4,r5,r6,r7,go_sem]) rfl ?_
  rw[HTE.out]
  exact⟨rfl,(kpset8 (.int .i64 0) (.int .i64 0) (.int .i64 0) (.int .u64 0) (.int .i64 0) (.int .i64 0) (.int .i64 0) (.bool false)).toBelow HB4.out HB4.out.size fun k e=>by have:=H0.out.2.2.2;omega⟩
end
end
end Go.Proofs.YtmbnlccafcfbeaaGreatDoor
