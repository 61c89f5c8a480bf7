/- Parts of the proof: RcS2, RcS3. -/
import Derived.Test.YtmbnlccafcfbeaaGreatDoorPdA
import Derived.Test.YtmbnlccafcfbeaaGreatDoorPd20
set_option linter.unusedVariables false
set_option linter.unusedSimpArgs false
set_option linter.unusedSectionVars false
set_option maxRecDepth 100000
namespace Go.Proofs.YtmbnlccafcfbeaaGreatDoor
section
open Go.RowKit
attribute [local go_sem] Oper.semAt_some
def lmV {α:Type} (m:Int) (p:α→Bool) (l:List α):Bool:=decide ((l.length:Int)≤m) && l.all p
def anV (x:An):Bool:=mchV x.machine && mchV x.owner && decide (x.epoch ≥ 0) && decide (x.last ≥ 0) && lmV 1024 inV x.inset
def clV (x:Cl):Bool:=mchV x.machine && decide (x.epoch ≥ 0) && lmV 1024 ndV x.stubs && lmV 1024 ndV x.scions && lmV 1024 ndV x.checks
def trV (x:Ms):Bool:=mchV x.tm && decide (x.ts ≥ 1)
set_option maxHeartbeats 4000000 in
theorem An_any {w:World} (x:An) {A:Option Addr} {c:Nat} (hl:LsI (flat inC) 99 3 w A c x.inset):Calls Tryz.prog 94 #[.agg #[.int .i64 x.machine,.int .i64 x.owner,.int .u64 x.number,.int .i64 x.epoch,.bool x.known,.bool x.rooted,.int .i64 x.last,.slice A x.inset.length c]] w (YesP w (anV x)):=by
 obtain⟨R,hR⟩:∃ R,R=anV x:=⟨_,rfl⟩
 rw[← hR]
 have HR:=lh hR
 obtain⟨W,hW⟩:∃ W,W=w.alloc (.cells #[.int .i64 x.machine,.int .i64 x.owner,.int .u64 x.number,.int .i64 x.epoch,.bool x.known,.bool x.rooted,.int .i64 x.last,.slice A x.inset.length c] 37):=⟨_,rfl⟩
 obtain⟨g,hg⟩:∃ g,g=w.heap.size:=⟨_,rfl⟩
 have hb0:Below w.heap.size w W:=by rw[hW];exact below_one _ _
 have hk0:Bk W g 37 #[.int .i64 x.machine,.int .i64 x.owner,.int .u64 x.number,.int .i64 x.epoch,.bool x.known,.bool x.rooted,.int .i64 x.last,.slice A x.inset.length c]:=by rw[hW,hg];exact Bk.new _ _ _
 have Mhl0:Hid (LsI (flat inC) 99 3 W A c x.inset):=lh (hl.below (flat_ru inC) (flat_rk inC) hb0)
 have a0:W.cell? ⟨g,0,none⟩=some (.int .i64 x.machine):=hk0.cell 0
 have a1:W.cell? ⟨g,1,none⟩=some (.int .i64 x.owner):=hk0.cell 1
 have a2:W.cell? ⟨g,2,none⟩=some (.int .u64 x.number):=hk0.cell 2
 have a3:W.cell? ⟨g,3,none⟩=some (.int .i64 x.epoch):=hk0.cell 3
 have a4:W.cell? ⟨g,4,none⟩=some (.bool x.known):=hk0.cell 4
 have a5:W.cell? ⟨g,5,none⟩=some (.bool x.rooted):=hk0.cell 5
 have a6:W.cell? ⟨g,6,none⟩=some (.int .i64 x.last):=hk0.cell 6
 have a7:W.cell? ⟨g,7,none⟩=some (.slice A x.inset.length c):=hk0.cell 7
 have HK0:=lh hk0
 have HB0:=lh hb0
 clear hb0 hk0 hR hl
 go_enter Tryz.func94,Tryz.ntmps94
 go_upto_region 1 with fail
 rw[← hW,← hg]
 clear hW hg
 have c0:=Mach_any W x.machine
 cases h0:mchV x.machine with
 | true =>
  rw[h0] at c0
  have H0:=lh h0
  clear h0
  go_wp2_with fail
  refine c0.mono ?_
  rintro e w1 ⟨rfl,hb1⟩
  have HB1:=lh (HB0.out.trans (hb1.mono HB0.out.size))
  have hk1:=HK0.out.below hb1 HK0.out.lt
  have Mhl1:Hid (LsI (flat inC) 99 3 w1 A c x.inset):=lh (Mhl0.out.below (flat_ru inC) (flat_rk inC) hb1)
  have fb0:w1.cell? ⟨g,0,none⟩=some (.int .i64 x.machine):=hk1.cell 0
  have fb1:w1.cell? ⟨g,1,none⟩=some (.int .i64 x.owner):=hk1.cell 1
  have fb2:w1.cell? ⟨g,2,none⟩=some (.int .u64 x.number):=hk1.cell 2
  have fb3:w1.cell? ⟨g,3,none⟩=some (.int .i64 x.epoch):=hk1.cell 3
  have fb4:w1.cell? ⟨g,4,none⟩=some (.bool x.known):=hk1.cell 4
  have fb5:w1.cell? ⟨g,5,none⟩=some (.bool x.rooted):=hk1.cell 5
  have fb6:w1.cell? ⟨g,6,none⟩=some (.int .i64 x.last):=hk1.cell 6
  have fb7:w1.cell? ⟨g,7,none⟩=some (.slice A x.inset.length c):=hk1.cell 7
  have HK1:=lh hk1
  clear hb1 hk1 c0 a0 a1 a2 a3 a4 a5 a6 a7
  have c1:=Mach_any w1 x.owner
  cases h1:mchV x.owner with
  | true =>
   rw[h1] at c1
   have H1:=lh h1
   clear h1
   go_wp2_with fail
   refine c1.mono ?_
   rintro e w2 ⟨rfl,hb2⟩
   have HB2:=lh (HB1.out.trans (hb2.mono HB1.out.size))
   have hk2:=HK1.out.below hb2 HK1.out.lt
   have Mhl2:Hid (LsI (flat inC) 99 3 w2 A c x.inset):=lh (Mhl1.out.below (flat_ru inC) (flat_rk inC) hb2)
   have fc0:w2.cell? ⟨g,0,none⟩=some (.int .i64 x.machine):=hk2.cell 0
   have fc1:w2.cell? ⟨g,1,none⟩=some (.int .i64 x.owner):=hk2.cell 1
   have fc2:w2.cell? ⟨g,2,none⟩=some (.int .u64 x.number):=hk2.cell 2
   have fc3:w2.cell? ⟨g,3,none⟩=some (.int .i64 x.epoch):=hk2.cell 3
   have fc4:w2.cell? ⟨g,4,none⟩=some (.bool x.known):=hk2.cell 4
   have fc5:w2.cell? ⟨g,5,none⟩=some (.bool x.rooted):=hk2.cell 5
   have fc6:w2.cell? ⟨g,6,none⟩=some (.int .i64 x.last):=hk2.cell 6
   have fc7:w2.cell? ⟨g,7,none⟩=some (.slice A x.inset.length c):=hk2.cell 7
   have HK2:=lh hk2
   clear hb2 hk2 c1 fb0 fb1 fb2 fb3 fb4 fb5 fb6 fb7
   cases h2:decide (x.epoch ≥ 0) with
   | true =>
    have q2:decide (x.epoch ≥ 0)=true:=h2
    have H2:=lh h2
    clear h2
    cases h3:decide (x.last ≥ 0) with
    | true =>
     have q3:decide (x.last ≥ 0)=true:=h3
     have H3:=lh h3
     clear h3
     have c4:=allIn_any Mhl2.out 1024
     cases h4:decide ((x.inset.length:Int)≤1024) && x.inset.all inV with
     | true =>
      rw[h4] at c4
      have H4:=lh h4
      clear h4
      go_wp2_with fail
      refine c4.mono ?_
      rintro e w3 ⟨rfl,hb3⟩
      have HB3:=lh (HB2.out.trans (hb3.mono HB2.out.size))
      clear hb3 c4 fc0 fc1 fc2 fc3 fc4 fc5 fc6 fc7
      go_wp2_with fail
      go_ret
      refine⟨congrArg (fun b=>Ending.returned (Value.bool b)) ?_,HB3.out⟩
      rw[HR.out]
      simp[anV,lmV,H0.out,H1.out,H2.out,H3.out,H4.out]
     | false =>
      rw[h4] at c4
      have H4:=lh h4
      clear h4
      go_wp2_with fail
      refine c4.mono ?_
      rintro e w3 ⟨rfl,hb3⟩
      have HB3:=lh (HB2.out.trans (hb3.mono HB2.out.size))
      clear hb3 c4 fc0 fc1 fc2 fc3 fc4 fc5 fc6 fc7
      go_wp2_with fail
      go_ret
      refine⟨congrArg (fun b=>Ending.returned (Value.bool b)) ?_,HB3.out⟩
      rw[HR.out]
      simp[anV,lmV,H0.out,H1.out,H2.out,H3.out,H4.out]
    | false =>
     have q3:decide (x.last ≥ 0)=false:=h3
     have H3:=lh h3
     clear h3
     go_wp2_with fail
     go_ret
     refine⟨congrArg (fun b=>Ending.returned (Value.bool b)) ?_,HB2.out⟩
     rw[HR.out]
     simp[anV,lmV,H0.out,H1.out,H2.out,H3.out]
   | false =>
    have q2:decide (x.epoch ≥ 0)=false:=h2
    have H2:=lh h2
    clear h2
    go_wp2_with fail
    go_ret
    refine⟨congrArg (fun b=>Ending.returned (Value.bool b)) ?_,HB2.out⟩
    rw[HR.out]
    simp[anV,lmV,H0.out,H1.out,H2.out]
  | false =>
   rw[h1] at c1
   have H1:=lh h1
   clear h1
   go_wp2_with fail
   refine c1.mono ?_
   rintro e w2 ⟨rfl,hb2⟩
   have HB2:=lh (HB1.out.trans (hb2.mono HB1.out.size))
   clear hb2 c1 fb0 fb1 fb2 fb3 fb4 fb5 fb6 fb7
   go_wp2_with fail
   go_ret
   refine⟨congrArg (fun b=>Ending.returned (Value.bool b)) ?_,HB2.out⟩
   rw[HR.out]
   simp[anV,lmV,H0.out,H1.out]
 | false =>
  rw[h0] at c0
  have H0:=lh h0
  clear h0
  go_wp2_with fail
  refine c0.mono ?_
  rintro e w1 ⟨rfl,hb1⟩
  have HB1:=lh (HB0.out.trans (hb1.mono HB0.out.size))
  clear hb1 c0 a0 a1 a2 a3 a4 a5 a6 a7
  go_wp2_with fail
  go_ret
  refine⟨congrArg (fun b=>Ending.returned (Value.bool b)) ?_,HB1.out⟩
  rw[HR.out]
  simp[anV,lmV,H0.out]
set_option maxHeartbeats 4000000 in
theorem Cl_any {w:World} (x:Cl) {A6 A7 A8:Option Addr} {c6 c7 c8:Nat} (h6:LsI (flat ndC) 136 3 w A6 c6 x.stubs) (h7:LsI (flat ndC) 136 3 w A7 c7 x.scions) (h8:LsI (flat ndC) 136 3 w A8 c8 x.checks):Calls Tryz.prog 98 #[.agg #[.int .i64 x.machine,.int .i64 x.epoch,.slice A6 x.stubs.length c6,.slice A7 x.scions.length c7,.slice A8 x.checks.length c8]] w (YesP w (clV x)):=by
 obtain⟨R,hR⟩:∃ R,R=clV x:=⟨_,rfl⟩
 rw[← hR]
 have HR:=lh hR
 obtain⟨W,hW⟩:∃ W,W=w.alloc (.cells #[.int .i64 x.machine,.int .i64 x.epoch,.slice A6 x.stubs.length c6,.slice A7 x.scions.length c7,.slice A8 x.checks.length c8] 40):=⟨_,rfl⟩
 obtain⟨g,hg⟩:∃ g,g=w.heap.size:=⟨_,rfl⟩
 have hb0:Below w.heap.size w W:=by rw[hW];exact below_one _ _
 have hk0:Bk W g 40 #[.int .i64 x.machine,.int .i64 x.epoch,.slice A6 x.stubs.length c6,.slice A7 x.scions.length c7,.slice A8 x.checks.length c8]:=by rw[hW,hg];exact Bk.new _ _ _
 have Mh60:Hid (LsI (flat ndC) 136 3 W A6 c6 x.stubs):=lh (h6.below (flat_ru ndC) (flat_rk ndC) hb0)
 have Mh70:Hid (LsI (flat ndC) 136 3 W A7 c7 x.scions):=lh (h7.below (flat_ru ndC) (flat_rk ndC) hb0)
 have Mh80:Hid (LsI (flat ndC) 136 3 W A8 c8 x.checks):=lh (h8.below (flat_ru ndC) (flat_rk ndC) hb0)
 have a0:W.cell? ⟨g,0,none⟩=some (.int .i64 x.machine):=hk0.cell 0
 have a1:W.cell? ⟨g,1,none⟩=some (.int .i64 x.epoch):=hk0.cell 1
 have a2:W.cell? ⟨g,2,none⟩=some (.slice A6 x.stubs.length c6):=hk0.cell 2
 have a3:W.cell? ⟨g,3,none⟩=some (.slice A7 x.scions.length c7):=hk0.cell 3
 have a4:W.cell? ⟨g,4,none⟩=some (.slice A8 x.checks.length c8):=hk0.cell 4
 have HK0:=lh hk0
 have HB0:=lh hb0
 clear hb0 hk0 hR h6 h7 h8
 go_enter Tryz.func98,Tryz.ntmps98
 go_upto_region 1 with fail
 rw[← hW,← hg]
 clear hW hg
 have c0:=Mach_any W x.machine
 cases h0:mchV x.machine with
 | true =>
  rw[h0] at c0
  have H0:=lh h0
  clear h0
  go_wp2_with fail
  refine c0.mono ?_
  rintro e w1 ⟨rfl,hb1⟩
  have HB1:=lh (HB0.out.trans (hb1.mono HB0.out.size))
  have hk1:=HK0.out.below hb1 HK0.out.lt
  have Mh61:Hid (LsI (flat ndC) 136 3 w1 A6 c6 x.stubs):=lh (Mh60.out.below (flat_ru ndC) (flat_rk ndC) hb1)
  have Mh71:Hid (LsI (flat ndC) 136 3 w1 A7 c7 x.scions):=lh (Mh70.out.below (flat_ru ndC) (flat_rk ndC) hb1)
  have Mh81:Hid (LsI (flat ndC) 136 3 w1 A8 c8 x.checks):=lh (Mh80.out.below (flat_ru ndC) (flat_rk ndC) hb1)
  have fb0:w1.cell? ⟨g,0,none⟩=some (.int .i64 x.machine):=hk1.cell 0
  have fb1:w1.cell? ⟨g,1,none⟩=some (.int .i64 x.epoch):=hk1.cell 1
  have fb2:w1.cell? ⟨g,2,none⟩=some (.slice A6 x.stubs.length c6):=hk1.cell 2
  have fb3:w1.cell? ⟨g,3,none⟩=some (.slice A7 x.scions.length c7):=hk1.cell 3
  have fb4:w1.cell? ⟨g,4,none⟩=some (.slice A8 x.checks.length c8):=hk1.cell 4
  have HK1:=lh hk1
  clear hb1 hk1 c0 a0 a1 a2 a3 a4
  cases h1:decide (x.epoch ≥ 0) with
  | true =>
   have q1:decide (x.epoch ≥ 0)=true:=h1
   have H1:=lh h1
   clear h1
   have c2:=allNd_any Mh61.out 1024
   cases h2:decide ((x.stubs.length:Int)≤1024) && x.stubs.all ndV with
   | true =>
    rw[h2] at c2
    have H2:=lh h2
    clear h2
    go_wp2_with fail
    refine c2.mono ?_
    rintro e w2 ⟨rfl,hb2⟩
    have HB2:=lh (HB1.out.trans (hb2.mono HB1.out.size))
    have hk2:=HK1.out.below hb2 HK1.out.lt
    have Mh62:Hid (LsI (flat ndC) 136 3 w2 A6 c6 x.stubs):=lh (Mh61.out.below (flat_ru ndC) (flat_rk ndC) hb2)
    have Mh72:Hid (LsI (flat ndC) 136 3 w2 A7 c7 x.scions):=lh (Mh71.out.below (flat_ru ndC) (flat_rk ndC) hb2)
    have Mh82:Hid (LsI (flat ndC) 136 3 w2 A8 c8 x.checks):=lh (Mh81.out.below (flat_ru ndC) (flat_rk ndC) hb2)
    have fc0:w2.cell? ⟨g,0,none⟩=some (.int .i64 x.machine):=hk2.cell 0
    have fc1:w2.cell? ⟨g,1,none⟩=some (.int .i64 x.epoch):=hk2.cell 1
    have fc2:w2.cell? ⟨g,2,none⟩=some (.slice A6 x.stubs.length c6):=hk2.cell 2
    have fc3:w2.cell? ⟨g,3,none⟩=some (.slice A7 x.scions.length c7):=hk2.cell 3
    have fc4:w2.cell? ⟨g,4,none⟩=some (.slice A8 x.checks.length c8):=hk2.cell 4
    have HK2:=lh hk2
    clear hb2 hk2 c2 fb0 fb1 fb2 fb3 fb4
    have c3:=allNd_any Mh72.out 1024
    cases h3:decide ((x.scions.length:Int)≤1024) && x.scions.all ndV with
    | true =>
     rw[h3] at c3
     have H3:=lh h3
     clear h3
     go_wp2_with fail
     refine c3.mono ?_
     rintro e w3 ⟨rfl,hb3⟩
     have HB3:=lh (HB2.out.trans (hb3.mono HB2.out.size))
     have hk3:=HK2.out.below hb3 HK2.out.lt
     have Mh63:Hid (LsI (flat ndC) 136 3 w3 A6 c6 x.stubs):=lh (Mh62.out.below (flat_ru ndC) (flat_rk ndC) hb3)
     have Mh73:Hid (LsI (flat ndC) 136 3 w3 A7 c7 x.scions):=lh (Mh72.out.below (flat_ru ndC) (flat_rk ndC) hb3)
     have Mh83:Hid (LsI (flat ndC) 136 3 w3 A8 c8 x.checks):=lh (Mh82.out.below (flat_ru ndC) (flat_rk ndC) hb3)
     have fd0:w3.cell? ⟨g,0,none⟩=some (.int .i64 x.machine):=hk3.cell 0
     have fd1:w3.cell? ⟨g,1,none⟩=some (.int .i64 x.epoch):=hk3.cell 1
     have fd2:w3.cell? ⟨g,2,none⟩=some (.slice A6 x.stubs.length c6):=hk3.cell 2
     have fd3:w3.cell? ⟨g,3,none⟩=some (.slice A7 x.scions.length c7):=hk3.cell 3
     have fd4:w3.cell? ⟨g,4,none⟩=some (.slice A8 x.checks.length c8):=hk3.cell 4
     have HK3:=lh hk3
     clear hb3 hk3 c3 fc0 fc1 fc2 fc3 fc4
     have c4:=allNd_any Mh83.out 1024
     cases h4:decide ((x.checks.length:Int)≤1024) && x.checks.all ndV with
     | true =>
      rw[h4] at c4
      have H4:=lh h4
      clear h4
      go_wp2_with fail
      refine c4.mono ?_
      rintro e w4 ⟨rfl,hb4⟩
      have HB4:=lh (HB3.out.trans (hb4.mono HB3.out.size))
      clear hb4 c4 fd0 fd1 fd2 fd3 fd4
      go_wp2_with fail
      go_ret
      refine⟨congrArg (fun b=>Ending.returned (Value.bool b)) ?_,HB4.out⟩
      rw[HR.out]
      simp[clV,lmV,H0.out,H1.out,H2.out,H3.out,H4.out]
     | false =>
      rw[h4] at c4
      have H4:=lh h4
      clear h4
      go_wp2_with fail
      refine c4.mono ?_
      rintro e w4 ⟨rfl,hb4⟩
      have HB4:=lh (HB3.out.trans (hb4.mono HB3.out.size))
      clear hb4 c4 fd0 fd1 fd2 fd3 fd4
      go_wp2_with fail
      go_ret
      refine⟨congrArg (fun b=>Ending.returned (Value.bool b)) ?_,HB4.out⟩
      rw[HR.out]
      simp[clV,lmV,H0.out,H1.out,H2.out,H3.out,H4.out]
    | false =>
     rw[h3] at c3
     have H3:=lh h3
     clear h3
     go_wp2_with fail
     refine c3.mono ?_
     rintro e w3 ⟨rfl,hb3⟩
     have HB3:=lh (HB2.out.trans (hb3.mono HB2.out.size))
     clear hb3 c3 fc0 fc1 fc2 fc3 fc4
     go_wp2_with fail
     go_ret
     refine⟨congrArg (fun b=>Ending.returned (Value.bool b)) ?_,HB3.out⟩
     rw[HR.out]
     simp[clV,lmV,H0.out,H1.out,H2.out,H3.out]
   | false =>
    rw[h2] at c2
    have H2:=lh h2
    clear h2
    go_wp2_with fail
    refine c2.mono ?_
    rintro e w2 ⟨rfl,hb2⟩
    have HB2:=lh (HB1.out.trans (hb2.mono HB1.out.size))
    clear hb2 c2 fb0 fb1 fb2 fb3 fb4
    go_wp2_with fail
    go_ret
    refine⟨congrArg (fun b=>Ending.returned (Value.bool b)) ?_,HB2.out⟩
    rw[HR.out]
    simp[clV,lmV,H0.out,H1.out,H2.out]
  | false =>
   have q1:decide (x.epoch ≥ 0)=false:=h1
   have H1:=lh h1
   clear h1
   go_wp2_with fail
   go_ret
   refine⟨congrArg (fun b=>Ending.returned (Value.bool b)) ?_,HB1.out⟩
   rw[HR.out]
   simp[clV,lmV,H0.out,H1.out]
 | false =>
  rw[h0] at c0
  have H0:=lh h0
  clear h0
  go_wp2_with fail
  refine c0.mono ?_
  rintro e w1 ⟨rfl,hb1⟩
  have HB1:=lh (HB0.out.trans (hb1.mono HB0.out.size))
  clear hb1 c0 a0 a1 a2 a3 a4
  go_wp2_with fail
  go_ret
  refine⟨congrArg (fun b=>Ending.returned (Value.bool b)) ?_,HB1.out⟩
  rw[HR.out]
  simp[clV,lmV,H0.out]
set_option maxHeartbeats 4000000 in
theorem Tr_any {w:World} (x:Ms) {A1 A2 A3 A4 A5 A6 A7 A8:Option Addr} {c1 c2 c3 c4 c5 c6 c7 c8:Nat} :Calls Tryz.prog 89 #[.agg #[.int .i64 x.kind,.int .u64 x.number,.int .i64 x.asker,.string x.name,.int .i64 x.ref.kind,.int .i64 x.ref.int,.int .i64 x.ref.owner,.int .u64 x.ref.number,.int .i64 x.ref.idm,.int .i64 x.ref.ids,.int .i64 x.ref.cls,.bool x.ref.weak,.int .i64 x.letter.idm,.int .i64 x.letter.ids,.string x.letter.meth,.slice A1 x.letter.args.length c1,.int .u64 x.parcel.number,.int .i64 x.parcel.idm,.int .i64 x.parcel.ids,.int .i64 x.parcel.kind,.int .i64 x.parcel.cls,.slice A2 x.parcel.fields.length c2,.slice A3 x.parcel.mail.length c3,.slice A4 x.parcel.watches.length c4,.int .i64 x.tm,.int .i64 x.ts,.int .i64 x.answer.machine,.int .i64 x.answer.owner,.int .u64 x.answer.number,.int .i64 x.answer.epoch,.bool x.answer.known,.bool x.answer.rooted,.int .i64 x.answer.last,.slice A5 x.answer.inset.length c5,.int .i64 x.claim.machine,.int .i64 x.claim.epoch,.slice A6 x.claim.stubs.length c6,.slice A7 x.claim.scions.length c7,.slice A8 x.claim.checks.length c8]] w (YesP w (trV x)):=by
 obtain⟨R,hR⟩:∃ R,R=trV x:=⟨_,rfl⟩
 rw[← hR]
 have HR:=lh hR
 obtain⟨W,hW⟩:∃ W,W=w.alloc (.cells #[.int .i64 x.kind,.int .u64 x.number,.int .i64 x.asker,.string x.name,.int .i64 x.ref.kind,.int .i64 x.ref.int,.int .i64 x.ref.owner,.int .u64 x.ref.number,.int .i64 x.ref.idm,.int .i64 x.ref.ids,.int .i64 x.ref.cls,.bool x.ref.weak,.int .i64 x.letter.idm,.int .i64 x.letter.ids,.string x.letter.meth,.slice A1 x.letter.args.length c1,.int .u64 x.parcel.number,.int .i64 x.parcel.idm,.int .i64 x.parcel.ids,.int .i64 x.parcel.kind,.int .i64 x.parcel.cls,.slice A2 x.parcel.fields.length c2,.slice A3 x.parcel.mail.length c3,.slice A4 x.parcel.watches.length c4,.int .i64 x.tm,.int .i64 x.ts,.int .i64 x.answer.machine,.int .i64 x.answer.owner,.int .u64 x.answer.number,.int .i64 x.answer.epoch,.bool x.answer.known,.bool x.answer.rooted,.int .i64 x.answer.last,.slice A5 x.answer.inset.length c5,.int .i64 x.claim.machine,.int .i64 x.claim.epoch,.slice A6 x.claim.stubs.length c6,.slice A7 x.claim.scions.length c7,.slice A8 x.claim.checks.length c8] 42):=⟨_,rfl⟩
 obtain⟨g,hg⟩:∃ g,g=w.heap.size:=⟨_,rfl⟩
 have hb0:Below w.heap.size w W:=by rw[hW];exact below_one _ _
 have hk0:Bk W g 42 #[.int .i64 x.kind,.int .u64 x.number,.int .i64 x.asker,.string x.name,.int .i64 x.ref.kind,.int .i64 x.ref.int,.int .i64 x.ref.owner,.int .u64 x.ref.number,.int .i64 x.ref.idm,.int .i64 x.ref.ids,.int .i64 x.ref.cls,.bool x.ref.weak,.int .i64 x.letter.idm,.int .i64 x.letter.ids,.string x.letter.meth,.slice A1 x.letter.args.length c1,.int .u64 x.parcel.number,.int .i64 x.parcel.idm,.int .i64 x.parcel.ids,.int .i64 x.parcel.kind,.int .i64 x.parcel.cls,.slice A2 x.parcel.fields.length c2,.slice A3 x.parcel.mail.length c3,.slice A4 x.parcel.watches.length c4,.int .i64 x.tm,.int .i64 x.ts,.int .i64 x.answer.machine,.int .i64 x.answer.owner,.int .u64 x.answer.number,.int .i64 x.answer.epoch,.bool x.answer.known,.bool x.answer.rooted,.int .i64 x.answer.last,.slice A5 x.answer.inset.length c5,.int .i64 x.claim.machine,.int .i64 x.claim.epoch,.slice A6 x.claim.stubs.length c6,.slice A7 x.claim.scions.length c7,.slice A8 x.claim.checks.length c8]:=by rw[hW,hg];exact Bk.new _ _ _
 have a24:W.cell? ⟨g,24,none⟩=some (.int .i64 x.tm):=hk0.cell 24
 have a25:W.cell? ⟨g,25,none⟩=some (.int .i64 x.ts):=hk0.cell 25
 have HK0:=lh hk0
 have HB0:=lh hb0
 clear hb0 hk0 hR
 go_enter Tryz.func89,Tryz.ntmps89
 go_upto_region 1 with fail
 rw[← hW,← hg]
 clear hW hg
 have c0:=Mach_any W x.tm
 cases h0:mchV x.tm with
 | true =>
  rw[h0] at c0
  have H0:=lh h0
  clear h0
  go_wp2_with fail
  refine c0.mono ?_
  rintro e w1 ⟨rfl,hb1⟩
  have HB1:=lh (HB0.out.trans (hb1.mono HB0.out.size))
  have hk1:=HK0.out.below hb1 HK0.out.lt
  have fb24:w1.cell? ⟨g,24,none⟩=some (.int .i64 x.tm):=hk1.cell 24
  have fb25:w1.cell? ⟨g,25,none⟩=some (.int .i64 x.ts):=hk1.cell 25
  have HK1:=lh hk1
  clear hb1 hk1 c0 a24 a25
  cases h1:decide (x.ts ≥ 1) with
  | true =>
   have q1:decide (x.ts ≥ 1)=true:=h1
   have H1:=lh h1
   clear h1
   go_wp2_with fail
   go_ret
   refine⟨congrArg (fun b=>Ending.returned (Value.bool b)) ?_,HB1.out⟩
   rw[HR.out]
   simp[trV,H0.out,H1.out]
  | false =>
   have q1:decide (x.ts ≥ 1)=false:=h1
   have H1:=lh h1
   clear h1
   go_wp2_with fail
   go_ret
   refine⟨congrArg (fun b=>Ending.returned (Value.bool b)) ?_,HB1.out⟩
   rw[HR.out]
   simp[trV,H0.out,H1.out]
 | false =>
  rw[h0] at c0
  have H0:=lh h0
  clear h0
  go_wp2_with fail
  refine c0.mono ?_
  rintro e w1 ⟨rfl,hb1⟩
  have HB1:=lh (HB0.out.trans (hb1.mono HB0.out.size))
  clear hb1 c0 a24 a25
  go_wp2_with fail
  go_ret
  refine⟨congrArg (fun b=>Ending.returned (Value.bool b)) ?_,HB1.out⟩
  rw[HR.out]
  simp[trV,H0.out]
end
section
open Go.RowKit
attribute [local go_sem] Oper.semAt_some
def bareV (x:Pc):Bool:=((x.mail.length:Int) == 0) && ((x.watches.length:Int) == 0)
def objV (x:Pc):Bool:=decide (x.cls ≥ 1) && decide (x.cls≤60) && lmV 30 plV x.fields
def wk1:List Rf→Bool
 | [f]=>wkV f
 | _=>false
def pcV (x:Pc):Bool:=idV x.idm x.ids && (if x.kind=0 then objV x && bareV x else if x.kind=1 then objV x && lmV 1024 ltV x.mail && lmV 1024 waV x.watches else if x.kind=2 then (x.cls == 0) && wk1 x.fields && bareV x else false)
structure PcEnv (w:World) (g:Nat) (x:Pc) (A2 A3 A4:Option Addr) (c2 c3 c4:Nat):Prop where
 bk:Bk w g 33 #[.int .u64 x.number,.int .i64 x.idm,.int .i64 x.ids,.int .i64 x.kind,.int .i64 x.cls,.slice A2 x.fields.length c2,.slice A3 x.mail.length c3,.slice A4 x.watches.length c4]
 f:LsI (flat rfC) 26 8 w A2 c2 x.fields
 m:LsI LtR 29 4 w A3 c3 x.mail
 v:LsI (flat waC) 65 12 w A4 c4 x.watches
theorem PcEnv.below {w w':World} {g:Nat} {x:Pc} {A2 A3 A4:Option Addr} {c2 c3 c4:Nat} (h:PcEnv w g x A2 A3 A4 c2 c3 c4) (hb:Below w.heap.size w w'):PcEnv w' g x A2 A3 A4 c2 c3 c4 :=
 ⟨h.bk.below hb h.bk.lt,h.f.below (flat_ru rfC) (flat_rk rfC) hb,h.m.below ltR_ru ltR_rk hb,h.v.below (flat_ru waC) (flat_rk waC) hb⟩
set_option maxHeartbeats 8000000 in
theorem Pc_any {w:World} (x:Pc) {A2 A3 A4:Option Addr} {c2 c3 c4:Nat} (hf:LsI (flat rfC) 26 8 w A2 c2 x.fields) (hm:LsI LtR 29 4 w A3 c3 x.mail) (hw:LsI (flat waC) 65 12 w A4 c4 x.watches):Calls Tryz.prog 81 #[.agg #[.int .u64 x.number,.int .i64 x.idm,.int .i64 x.ids,.int .i64 x.kind,.int .i64 x.cls,.slice A2 x.fields.length c2,.slice A3 x.mail.length c3,.slice A4 x.watches.length c4]] w (YesP w (pcV x)):=by
 obtain⟨R,hR⟩:∃ R,R=pcV x:=⟨_,rfl⟩
 rw[← hR]
 have HR:=lh hR
 obtain⟨W,hW⟩:∃ W,W=w.alloc (.cells #[.int .u64 x.number,.int .i64 x.idm,.int .i64 x.ids,.int .i64 x.kind,.int .i64 x.cls,.slice A2 x.fields.length c2,.slice A3 x.mail.length c3,.slice A4 x.watches.length c4] 33):=⟨_,rfl⟩
 obtain⟨g,hg⟩:∃ g,g=w.heap.size:=⟨_,rfl⟩
 have hb0:Below w.heap.size w W:=by rw[hW];exact below_one _ _
 have hk0:Bk W g 33 #[.int .u64 x.number,.int .i64 x.idm,.int .i64 x.ids,.int .i64 x.kind,.int .i64 x.cls,.slice A2 x.fields.length c2,.slice A3 x.mail.length c3,.slice A4 x.watches.length c4]:=by rw[hW,hg];exact Bk.new _ _ _
 have HE0:Hid (PcEnv W g x A2 A3 A4 c2 c3 c4):=lh ⟨hk0,hf.below (flat_ru rfC) (flat_rk rfC) hb0,hm.below ltR_ru ltR_rk hb0,hw.below (flat_ru waC) (flat_rk waC) hb0⟩
 have HB0:=lh hb0
 have a0:W.cell? ⟨g,0,none⟩=some (.int .u64 x.number):=hk0.cell 0
 have a1:W.cell? ⟨g,1,none⟩=some (.int .i64 x.idm):=hk0.cell 1
 have a2:W.cell? ⟨g,2,none⟩=some (.int .i64 x.ids):=hk0.cell 2
 have a3:W.cell? ⟨g,3,none⟩=some (.int .i64 x.kind):=hk0.cell 3
 have a4:W.cell? ⟨g,4,none⟩=some (.int .i64 x.cls):=hk0.cell 4
 have a5:W.cell? ⟨g,5,none⟩=some (.slice A2 x.fields.length c2):=hk0.cell 5
 have a6:W.cell? ⟨g,6,none⟩=some (.slice A3 x.mail.length c3):=hk0.cell 6
 have a7:W.cell? ⟨g,7,none⟩=some (.slice A4 x.watches.length c4):=hk0.cell 7
 have cI:=Idv_any W x.idm x.ids
 clear hb0 hk0 hR hf hm hw
 go_enter Tryz.func81,Tryz.ntmps81
 go_upto_region 1 with fail
 rw[← hW,← hg]
 clear hW hg
 cases h0:idV x.idm x.ids with
 | false =>
  rw[h0] at cI
  have H0:=lh h0
  clear h0
  go_wp2_with fail
  refine cI.mono ?_
  rintro e w1 ⟨rfl,hb1⟩
  have HB1:=lh (HB0.out.trans (hb1.mono HB0.out.size))
  clear hb1 cI a0 a1 a2 a3 a4 a5 a6 a7
  go_wp2_with fail
  go_ret
  refine⟨congrArg (fun b=>Ending.returned (Value.bool b)) ?_,HB1.out⟩
  rw[HR.out]
  simp[pcV,H0.out]
 | true =>
  rw[h0] at cI
  have H0:=lh h0
  clear h0
  go_wp2_with fail
  refine cI.mono ?_
  rintro e w1 ⟨rfl,hb1⟩
  have HB1:=lh (HB0.out.trans (hb1.mono HB0.out.size))
  have HE1:=lh (HE0.out.below hb1)
  clear hb1 cI a0 a1 a2 a3 a4 a5 a6 a7
  have b0:w1.cell? ⟨g,0,none⟩=some (.int .u64 x.number):=HE1.out.bk.cell 0
  have b1:w1.cell? ⟨g,1,none⟩=some (.int .i64 x.idm):=HE1.out.bk.cell 1
  have b2:w1.cell? ⟨g,2,none⟩=some (.int .i64 x.ids):=HE1.out.bk.cell 2
  have b3:w1.cell? ⟨g,3,none⟩=some (.int .i64 x.kind):=HE1.out.bk.cell 3
  have b4:w1.cell? ⟨g,4,none⟩=some (.int .i64 x.cls):=HE1.out.bk.cell 4
  have b5:w1.cell? ⟨g,5,none⟩=some (.slice A2 x.fields.length c2):=HE1.out.bk.cell 5
  have b6:w1.cell? ⟨g,6,none⟩=some (.slice A3 x.mail.length c3):=HE1.out.bk.cell 6
  have b7:w1.cell? ⟨g,7,none⟩=some (.slice A4 x.watches.length c4):=HE1.out.bk.cell 7
  go_upto_region 3 with fail
  go_cut [3] from 9 to 18 (fun s3 wx=>s3=.bool (bareV x)∧wx=w1)
  case first =>
   cases h1:((x.mail.length:Int) == 0) with
   | true =>
    cases h2:((x.watches.length:Int) == 0) with
    | true =>
     have q1:((x.mail.length:Int) == 0)=true:=h1
     have q2:((x.watches.length:Int) == 0)=true:=h2
     have H1:=lh h1
     have H2:=lh h2
     clear h1 h2
     go_wp2_with fail
     go_meet
     exact⟨by simp only[bareV,H1.out,H2.out];rfl,rfl⟩
    | false =>
     have q1:((x.mail.length:Int) == 0)=true:=h1
     have q2:((x.watches.length:Int) == 0)=false:=h2
     have H1:=lh h1
     have H2:=lh h2
     clear h1 h2
     go_wp2_with fail
     go_meet
     exact⟨by simp only[bareV,H1.out,H2.out];rfl,rfl⟩
   | false =>
    have q1:((x.mail.length:Int) == 0)=false:=h1
    have H1:=lh h1
    clear h1
    go_wp2_with fail
    go_meet
    exact⟨by simp only[bareV,H1.out];rfl,rfl⟩
  case rest =>
   obtain⟨rfl,hwx⟩:=hcut
   subst hwx
   obtain⟨B3,hB3⟩:∃ B3,B3=bareV x:=⟨_,rfl⟩
   rw[← hB3]
   have HV3:=lh hB3
   clear hB3
   obtain⟨wo,rfl⟩:∃ wo:World,wo=wc:=⟨_,rfl⟩
   go_upto_region 4 with fail
   have hsw:=HB1.out.size
   go_cut [4] from 19 to 31 (fun s4 wx=>s4=.bool (objV x)∧Below wo.heap.size wo wx)
   case first =>
    have cA:=allRf_any HE1.out.f 30
    cases h1:decide (x.cls ≥ 1) with
    | false =>
     have q1:decide (x.cls ≥ 1)=false:=h1
     have H1:=lh h1
     clear h1
     go_wp2_with fail
     go_meet
     exact⟨by simp only[objV,H1.out];rfl,Below.refl _ _⟩
    | true =>
     have q1:decide (x.cls ≥ 1)=true:=h1
     have H1:=lh h1
     clear h1
     cases h2:decide (x.cls≤60) with
     | false =>
      have q2:decide (x.cls≤60)=false:=h2
      have H2:=lh h2
      clear h2
      go_wp2_with fail
      go_meet
      exact⟨by simp only[objV,H1.out,H2.out];rfl,Below.refl _ _⟩
     | true =>
      have q2:decide (x.cls≤60)=true:=h2
      have H2:=lh h2
      clear h2
      go_wp2_with fail
      refine cA.mono ?_
      rintro e w2 ⟨rfl,hb2⟩
      have HB2:=lh hb2
      clear hb2 cA b0 b1 b2 b3 b4 b5 b6 b7
      go_wp2_with fail
      go_meet
      exact⟨by simp only[objV,H1.out,H2.out,lmV];simp,HB2.out⟩
   case rest =>
    obtain⟨rfl,hbx⟩:=hcut
    obtain⟨B4,hB4⟩:∃ B4,B4=objV x:=⟨_,rfl⟩
    rw[← hB4]
    have HV4:=lh hB4
    clear hB4
    have HE2:=lh (HE1.out.below hbx)
    have HB2:=lh (HB1.out.trans (hbx.mono hsw))
    clear hbx b0 b1 b2 b3 b4 b5 b6 b7
    obtain⟨w2,rfl⟩:∃ w2:World,w2=wc:=⟨_,rfl⟩
    have d0:w2.cell? ⟨g,0,none⟩=some (.int .u64 x.number):=HE2.out.bk.cell 0
    have d1:w2.cell? ⟨g,1,none⟩=some (.int .i64 x.idm):=HE2.out.bk.cell 1
    have d2:w2.cell? ⟨g,2,none⟩=some (.int .i64 x.ids):=HE2.out.bk.cell 2
    have d3:w2.cell? ⟨g,3,none⟩=some (.int .i64 x.kind):=HE2.out.bk.cell 3
    have d4:w2.cell? ⟨g,4,none⟩=some (.int .i64 x.cls):=HE2.out.bk.cell 4
    have d5:w2.cell? ⟨g,5,none⟩=some (.slice A2 x.fields.length c2):=HE2.out.bk.cell 5
    have d6:w2.cell? ⟨g,6,none⟩=some (.slice A3 x.mail.length c3):=HE2.out.bk.cell 6
    have d7:w2.cell? ⟨g,7,none⟩=some (.slice A4 x.watches.length c4):=HE2.out.bk.cell 7
    by_cases k0:x.kind=0
    ·have H5:=lh k0
     rw[k0] at d3
     clear k0
     cases B4 with
     | false =>
      go_wp2_with fail
      go_ret
      refine⟨congrArg (fun b=>Ending.returned (Value.bool b)) ?_,HB2.out⟩
      rw[HR.out]
      simp[pcV,H0.out,H5.out,← HV4.out,← HV3.out]
     | true =>
      go_wp2_with fail
      go_ret
      refine⟨congrArg (fun b=>Ending.returned (Value.bool b)) ?_,HB2.out⟩
      rw[HR.out]
      simp[pcV,H0.out,H5.out,← HV4.out,← HV3.out]
    ·have f0:(x.kind == 0)=false:=by simpa using k0
     by_cases k1:x.kind=1
     ·have H5:=lh k1
      rw[k1] at d3
      clear k0 f0 k1
      cases B4 with
      | false =>
       go_wp2_with fail
       go_ret
       refine⟨congrArg (fun b=>Ending.returned (Value.bool b)) ?_,HB2.out⟩
       rw[HR.out]
       simp[pcV,H0.out,H5.out,← HV4.out,← HV3.out]
      | true =>
       have cc:=allLt_any HE2.out.m 1024
       cases hh:(decide ((x.mail.length:Int)≤1024) && x.mail.all ltV) with
       | false =>
        rw[hh] at cc
        have H6:=lh hh
        clear hh
        go_wp2_with fail
        refine cc.mono ?_
        rintro e w3 ⟨rfl,hbq⟩
        have HB3:=lh (HB2.out.trans (hbq.mono HB2.out.size))
        have HE3:=lh (HE2.out.below hbq)
        clear hbq cc d0 d1 d2 d3 d4 d5 d6 d7
        go_wp2_with fail
        go_ret
        refine⟨congrArg (fun b=>Ending.returned (Value.bool b)) ?_,HB3.out⟩
        rw[HR.out]
        simp[pcV,H0.out,H5.out,lmV,H6.out]
       | true =>
        rw[hh] at cc
        have H6:=lh hh
        clear hh
        go_wp2_with fail
        refine cc.mono ?_
        rintro e w3 ⟨rfl,hbq⟩
        have HB3:=lh (HB2.out.trans (hbq.mono HB2.out.size))
        have HE3:=lh (HE2.out.below hbq)
        clear hbq cc d0 d1 d2 d3 d4 d5 d6 d7
        have f0:w3.cell? ⟨g,0,none⟩=some (.int .u64 x.number):=HE3.out.bk.cell 0
        have f1:w3.cell? ⟨g,1,none⟩=some (.int .i64 x.idm):=HE3.out.bk.cell 1
        have f2:w3.cell? ⟨g,2,none⟩=some (.int .i64 x.ids):=HE3.out.bk.cell 2
        have f3:w3.cell? ⟨g,3,none⟩=some (.int .i64 x.kind):=HE3.out.bk.cell 3
        have f4:w3.cell? ⟨g,4,none⟩=some (.int .i64 x.cls):=HE3.out.bk.cell 4
        have f5:w3.cell? ⟨g,5,none⟩=some (.slice A2 x.fields.length c2):=HE3.out.bk.cell 5
        have f6:w3.cell? ⟨g,6,none⟩=some (.slice A3 x.mail.length c3):=HE3.out.bk.cell 6
        have f7:w3.cell? ⟨g,7,none⟩=some (.slice A4 x.watches.length c4):=HE3.out.bk.cell 7
        have cc:=allWa_any HE3.out.v 1024
        cases hh:(decide ((x.watches.length:Int)≤1024) && x.watches.all waV) with
        | false =>
         rw[hh] at cc
         have H7:=lh hh
         clear hh
         go_wp2_with fail
         refine cc.mono ?_
         rintro e w4 ⟨rfl,hbq⟩
         have HB4:=lh (HB3.out.trans (hbq.mono HB3.out.size))
         have HE4:=lh (HE3.out.below hbq)
         clear hbq cc f0 f1 f2 f3 f4 f5 f6 f7
         go_wp2_with fail
         go_ret
         refine⟨congrArg (fun b=>Ending.returned (Value.bool b)) ?_,HB4.out⟩
         rw[HR.out]
         simp[pcV,H0.out,H5.out,← HV4.out,lmV,H6.out,H7.out]
        | true =>
         rw[hh] at cc
         have H7:=lh hh
         clear hh
         go_wp2_with fail
         refine cc.mono ?_
         rintro e w4 ⟨rfl,hbq⟩
         have HB4:=lh (HB3.out.trans (hbq.mono HB3.out.size))
         have HE4:=lh (HE3.out.below hbq)
         clear hbq cc f0 f1 f2 f3 f4 f5 f6 f7
         go_wp2_with fail
         go_ret
         refine⟨congrArg (fun b=>Ending.returned (Value.bool b)) ?_,HB4.out⟩
         rw[HR.out]
         simp[pcV,H0.out,H5.out,← HV4.out,lmV,H6.out,H7.out]
     ·have f1:(x.kind == 1)=false:=by simpa using k1
      by_cases k2:x.kind=2
      ·have H5:=lh k2
       rw[k2] at d3
       clear k0 f0 k1 f1 k2
       cases h6:(x.cls == 0) with
       | false =>
        have q6:(x.cls == 0)=false:=h6
        have H6:=lh h6
        clear h6
        go_wp2_with fail
        go_ret
        refine⟨congrArg (fun b=>Ending.returned (Value.bool b)) ?_,HB2.out⟩
        rw[HR.out]
        simp[pcV,H0.out,H5.out,H6.out]
       | true =>
        have q6:(x.cls == 0)=true:=h6
        have H6:=lh h6
        clear h6
        cases h7:((x.fields.length:Int) == 1) with
        | false =>
         have q7:((x.fields.length:Int) == 1)=false:=h7
         have H7:Hid (wk1 x.fields=false):=lh (by
          rcases hh:x.fields with _ | ⟨f,_ | ⟨f2,l⟩⟩
          ·rfl
          ·rw[hh] at h7;cases h7
          ·rfl)
         clear h7
         go_wp2_with fail
         go_ret
         refine⟨congrArg (fun b=>Ending.returned (Value.bool b)) ?_,HB2.out⟩
         rw[HR.out]
         simp[pcV,H0.out,H5.out,H6.out,H7.out]
        | true =>
         have q7:((x.fields.length:Int) == 1)=true:=h7
         have hl1:x.fields.length=1:=by have:=beq_iff_eq.1 h7;omega
         obtain⟨f,hf⟩:=List.length_eq_one_iff.1 hl1
         obtain⟨b,oo,r,hA2,_,hr,hcells⟩:=HE2.out.f.get (k:=0) (x:=f) (by rw[hf];rfl)
         unfold flat at hr
         subst hr
         subst hA2
         have x0:w2.cell? ⟨b,oo,none⟩=some (.int .i64 f.kind):=by simpa using hcells 0 _ rfl
         have x1:w2.cell? ⟨b,oo+1,none⟩=some (.int .i64 f.int):=by simpa using hcells 1 _ rfl
         have x2:w2.cell? ⟨b,oo+2,none⟩=some (.int .i64 f.owner):=by simpa using hcells 2 _ rfl
         have x3:w2.cell? ⟨b,oo+3,none⟩=some (.int .u64 f.number):=by simpa using hcells 3 _ rfl
         have x4:w2.cell? ⟨b,oo+4,none⟩=some (.int .i64 f.idm):=by simpa using hcells 4 _ rfl
         have x5:w2.cell? ⟨b,oo+5,none⟩=some (.int .i64 f.ids):=by simpa using hcells 5 _ rfl
         have x6:w2.cell? ⟨b,oo+6,none⟩=some (.int .i64 f.cls):=by simpa using hcells 6 _ rfl
         have x7:w2.cell? ⟨b,oo+7,none⟩=some (.bool f.weak):=by simpa using hcells 7 _ rfl
         have H7:Hid (wk1 x.fields=wkV f):=lh (by rw[hf];rfl)
         have hll:0 < x.fields.length:=by omega
         have cc:=Wk_any (w:=w2) f
         clear hcells hf h7 hl1
         cases hh:wkV f with
         | false =>
          rw[hh] at cc
          have H8:=lh hh
          clear hh
          go_wp2_with fail
          refine cc.mono ?_
          rintro e w3 ⟨rfl,hbq⟩
          have HBq:=lh (HB2.out.trans (hbq.mono HB2.out.size))
          clear hbq cc d0 d1 d2 d3 d4 d5 d6 d7 x0 x1 x2 x3 x4 x5 x6 x7
          go_wp2_with fail
          go_ret
          refine⟨congrArg (fun b=>Ending.returned (Value.bool b)) ?_,HBq.out⟩
          rw[HR.out]
          simp[pcV,H0.out,H5.out,H6.out,H7.out,H8.out,← HV3.out]
         | true =>
          rw[hh] at cc
          have H8:=lh hh
          clear hh
          go_wp2_with fail
          refine cc.mono ?_
          rintro e w3 ⟨rfl,hbq⟩
          have HBq:=lh (HB2.out.trans (hbq.mono HB2.out.size))
          clear hbq cc d0 d1 d2 d3 d4 d5 d6 d7 x0 x1 x2 x3 x4 x5 x6 x7
          go_wp2_with fail
          go_ret
          refine⟨congrArg (fun b=>Ending.returned (Value.bool b)) ?_,HBq.out⟩
          rw[HR.out]
          simp[pcV,H0.out,H5.out,H6.out,H7.out,H8.out,← HV3.out]
      ·have f2:(x.kind == 2)=false:=by simpa using k2
       have H5:=lh (And.intro k0 (And.intro k1 k2))
       clear k0 k1 k2
       go_wp2_with fail
       go_ret
       refine⟨congrArg (fun b=>Ending.returned (Value.bool b)) ?_,HB2.out⟩
       rw[HR.out]
       simp[pcV,H0.out,H5.out]
end
end Go.Proofs.YtmbnlccafcfbeaaGreatDoor
