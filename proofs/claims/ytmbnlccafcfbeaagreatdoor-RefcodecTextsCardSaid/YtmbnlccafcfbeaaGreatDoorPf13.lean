/- Parts of the proof: RcS2, RcS3, RcT. -/
import Derived.Laws.EntriesVeiled
import Derived.Test.YtmbnlccafcfbeaaGreatDoorPfA
import Derived.Test.YtmbnlccafcfbeaaGreatDoorPf12
set_option linter.unusedVariables false
set_option linter.unusedSimpArgs false
set_option linter.unusedSectionVars false
set_option maxRecDepth 100000
set_option maxHeartbeats 64000000
namespace Go.Proofs.YtmbnlccafcfbeaaGreatDoor
section
open Go.RowKit
attribute [local go_sem] Oper.semAt_some
def lmV {α:Type} (m:Int) (p:α→Bool) (l:List α):Bool:=decide ((l.length:Int)≤m) && l.all p
def anV (x:An):Bool:=ql1 x.machine && ql1 x.owner && decide (x.epoch ≥ 0) && decide (x.last ≥ 0) && lmV 1024 inV x.inset
def clV (x:Cl):Bool:=ql1 x.machine && decide (x.epoch ≥ 0) && lmV 1024 ndV x.stubs && lmV 1024 ndV x.scions && lmV 1024 ndV x.checks
def trV (x:Ms):Bool:=ql1 x.tm && decide (x.ts ≥ 1)
theorem An_any {w:World} (x:An) {A:Option Addr} {c:Nat} (hl:LsI (qa6 inC) 99 3 w A c x.inset):Calls Tryz.prog 94 #[.agg #[iv x.machine,iv x.owner,uv x.number,iv x.epoch,.bool x.known,.bool x.rooted,iv x.last,.slice A x.inset.length c]] w (qe7 w (anV x)):=by
 obtain⟨R,hR⟩:∃ R,R=anV x:=⟨_,rfl⟩
 rw[← hR];have HR:=lh hR
 obtain⟨W,hW⟩:∃ W,W=w.alloc (.cells #[iv x.machine,iv x.owner,uv x.number,iv x.epoch,.bool x.known,.bool x.rooted,iv x.last,.slice A x.inset.length c] 37):=⟨_,rfl⟩
 obtain⟨g,hg⟩:∃ g,g=w.heap.size:=⟨_,rfl⟩
 have hb0:bw w W:=by rw[hW];exact qa2 _ _
 have hk0:Bk W g 37 #[iv x.machine,iv x.owner,uv x.number,iv x.epoch,.bool x.known,.bool x.rooted,iv x.last,.slice A x.inset.length c]:=by rw[hW,hg];exact Bk.new _ _ _
 have Mhl0:Hid (LsI (qa6 inC) 99 3 W A c x.inset):=lh (hl.below (qa1 inC) (qa0 inC) hb0);have a0:cl W g 0 (iv x.machine):=hk0.cell 0;have a1:cl W g 1 (iv x.owner):=hk0.cell 1;have a2:cl W g 2 (uv x.number):=hk0.cell 2;have a3:cl W g 3 (iv x.epoch):=hk0.cell 3;have a4:cl W g 4 (.bool x.known):=hk0.cell 4;have a5:cl W g 5 (.bool x.rooted):=hk0.cell 5;have a6:cl W g 6 (iv x.last):=hk0.cell 6;have a7:cl W g 7 (.slice A x.inset.length c):=hk0.cell 7;have HK0:=lh hk0;have HB0:=lh hb0;clear hb0 hk0 hR hl
 go_enter Tryz.func94,Tryz.ntmps94
 go_upto_region 1 with fail
 rw[← hW,← hg];clear hW hg;have c0:=qi2 W x.machine
 cases h0:ql1 x.machine with
 | true =>
  rw[h0] at c0;have H0:=lh h0;clear h0
  go_wp2_with fail
  refine c0.mono ?_;rintro e w1 ⟨rfl,hb1⟩;have HB1:=lh (HB0.o.trans (hb1.mono HB0.o.size));have hk1:=HK0.o.below hb1 HK0.o.lt;have Mhl1:Hid (LsI (qa6 inC) 99 3 w1 A c x.inset):=lh (Mhl0.o.below (qa1 inC) (qa0 inC) hb1);have fb0:cl w1 g 0 (iv x.machine):=hk1.cell 0;have fb1:cl w1 g 1 (iv x.owner):=hk1.cell 1;have fb2:cl w1 g 2 (uv x.number):=hk1.cell 2;have fb3:cl w1 g 3 (iv x.epoch):=hk1.cell 3;have fb4:cl w1 g 4 (.bool x.known):=hk1.cell 4;have fb5:cl w1 g 5 (.bool x.rooted):=hk1.cell 5;have fb6:cl w1 g 6 (iv x.last):=hk1.cell 6;have fb7:cl w1 g 7 (.slice A x.inset.length c):=hk1.cell 7;have HK1:=lh hk1;clear hb1 hk1 c0 a0 a1 a2 a3 a4 a5 a6 a7;have c1:=qi2 w1 x.owner
  cases h1:ql1 x.owner with
  | true =>
   rw[h1] at c1;have H1:=lh h1;clear h1
   go_wp2_with fail
   refine c1.mono ?_;rintro e w2 ⟨rfl,hb2⟩;have HB2:=lh (HB1.o.trans (hb2.mono HB1.o.size));have hk2:=HK1.o.below hb2 HK1.o.lt;have Mhl2:Hid (LsI (qa6 inC) 99 3 w2 A c x.inset):=lh (Mhl1.o.below (qa1 inC) (qa0 inC) hb2);have fc0:cl w2 g 0 (iv x.machine):=hk2.cell 0;have fc1:cl w2 g 1 (iv x.owner):=hk2.cell 1;have fc2:cl w2 g 2 (uv x.number):=hk2.cell 2;have fc3:cl w2 g 3 (iv x.epoch):=hk2.cell 3;have fc4:cl w2 g 4 (.bool x.known):=hk2.cell 4;have fc5:cl w2 g 5 (.bool x.rooted):=hk2.cell 5;have fc6:cl w2 g 6 (iv x.last):=hk2.cell 6;have fc7:cl w2 g 7 (.slice A x.inset.length c):=hk2.cell 7;have HK2:=lh hk2;clear hb2 hk2 c1 fb0 fb1 fb2 fb3 fb4 fb5 fb6 fb7
   cases h2:decide (x.epoch ≥ 0) with
   | true =>
    have q2:decide (x.epoch ≥ 0)=true:=h2;have H2:=lh h2;clear h2
    cases h3:decide (x.last ≥ 0) with
    | true =>
     have q3:decide (x.last ≥ 0)=true:=h3;have H3:=lh h3;clear h3;have c4:=allIn_any Mhl2.o 1024
     cases h4:decide ((x.inset.length:Int)≤1024) && x.inset.all inV with
     | true =>
      rw[h4] at c4;have H4:=lh h4;clear h4
      go_wp2_with fail
      refine c4.mono ?_;rintro e w3 ⟨rfl,hb3⟩;have HB3:=lh (HB2.o.trans (hb3.mono HB2.o.size));clear hb3 c4 fc0 fc1 fc2 fc3 fc4 fc5 fc6 fc7
      go_wp2_with fail
      go_ret;refine⟨cgb ?_,HB3.o⟩;rw[HR.o]
      simp[anV,lmV,H0.o,H1.o,H2.o,H3.o,H4.o]
     | false =>
      rw[h4] at c4;have H4:=lh h4;clear h4
      go_wp2_with fail
      refine c4.mono ?_;rintro e w3 ⟨rfl,hb3⟩;have HB3:=lh (HB2.o.trans (hb3.mono HB2.o.size));clear hb3 c4 fc0 fc1 fc2 fc3 fc4 fc5 fc6 fc7
      go_wp2_with fail
      go_ret;refine⟨cgb ?_,HB3.o⟩;rw[HR.o]
      simp[anV,lmV,H0.o,H1.o,H2.o,H3.o,H4.o]
    | false =>
     have q3:decide (x.last ≥ 0)=false:=h3;have H3:=lh h3;clear h3
     go_wp2_with fail
     go_ret;refine⟨cgb ?_,HB2.o⟩;rw[HR.o]
     simp[anV,lmV,H0.o,H1.o,H2.o,H3.o]
   | false =>
    have q2:decide (x.epoch ≥ 0)=false:=h2;have H2:=lh h2;clear h2
    go_wp2_with fail
    go_ret;refine⟨cgb ?_,HB2.o⟩;rw[HR.o]
    simp[anV,lmV,H0.o,H1.o,H2.o]
  | false =>
   rw[h1] at c1;have H1:=lh h1;clear h1
   go_wp2_with fail
   refine c1.mono ?_;rintro e w2 ⟨rfl,hb2⟩;have HB2:=lh (HB1.o.trans (hb2.mono HB1.o.size));clear hb2 c1 fb0 fb1 fb2 fb3 fb4 fb5 fb6 fb7
   go_wp2_with fail
   go_ret;refine⟨cgb ?_,HB2.o⟩;rw[HR.o]
   simp[anV,lmV,H0.o,H1.o]
 | false =>
  rw[h0] at c0;have H0:=lh h0;clear h0
  go_wp2_with fail
  refine c0.mono ?_;rintro e w1 ⟨rfl,hb1⟩;have HB1:=lh (HB0.o.trans (hb1.mono HB0.o.size));clear hb1 c0 a0 a1 a2 a3 a4 a5 a6 a7
  go_wp2_with fail
  go_ret;refine⟨cgb ?_,HB1.o⟩;rw[HR.o]
  simp[anV,lmV,H0.o]
theorem Cl_any {w:World} (x:Cl) {A6 A7 A8:Option Addr} {c6 c7 c8:Nat} (h6:LsI (qa6 ndC) 136 3 w A6 c6 x.stubs) (h7:LsI (qa6 ndC) 136 3 w A7 c7 x.scions) (h8:LsI (qa6 ndC) 136 3 w A8 c8 x.checks):Calls Tryz.prog 98 #[.agg #[iv x.machine,iv x.epoch,.slice A6 x.stubs.length c6,.slice A7 x.scions.length c7,.slice A8 x.checks.length c8]] w (qe7 w (clV x)):=by
 obtain⟨R,hR⟩:∃ R,R=clV x:=⟨_,rfl⟩
 rw[← hR];have HR:=lh hR
 obtain⟨W,hW⟩:∃ W,W=w.alloc (.cells #[iv x.machine,iv x.epoch,.slice A6 x.stubs.length c6,.slice A7 x.scions.length c7,.slice A8 x.checks.length c8] 40):=⟨_,rfl⟩
 obtain⟨g,hg⟩:∃ g,g=w.heap.size:=⟨_,rfl⟩
 have hb0:bw w W:=by rw[hW];exact qa2 _ _
 have hk0:Bk W g 40 #[iv x.machine,iv x.epoch,.slice A6 x.stubs.length c6,.slice A7 x.scions.length c7,.slice A8 x.checks.length c8]:=by rw[hW,hg];exact Bk.new _ _ _
 have Mh60:Hid (LsI (qa6 ndC) 136 3 W A6 c6 x.stubs):=lh (h6.below (qa1 ndC) (qa0 ndC) hb0);have Mh70:Hid (LsI (qa6 ndC) 136 3 W A7 c7 x.scions):=lh (h7.below (qa1 ndC) (qa0 ndC) hb0);have Mh80:Hid (LsI (qa6 ndC) 136 3 W A8 c8 x.checks):=lh (h8.below (qa1 ndC) (qa0 ndC) hb0);have a0:cl W g 0 (iv x.machine):=hk0.cell 0;have a1:cl W g 1 (iv x.epoch):=hk0.cell 1;have a2:cl W g 2 (.slice A6 x.stubs.length c6):=hk0.cell 2;have a3:cl W g 3 (.slice A7 x.scions.length c7):=hk0.cell 3;have a4:cl W g 4 (.slice A8 x.checks.length c8):=hk0.cell 4;have HK0:=lh hk0;have HB0:=lh hb0;clear hb0 hk0 hR h6 h7 h8
 go_enter Tryz.func98,Tryz.ntmps98
 go_upto_region 1 with fail
 rw[← hW,← hg];clear hW hg;have c0:=qi2 W x.machine
 cases h0:ql1 x.machine with
 | true =>
  rw[h0] at c0;have H0:=lh h0;clear h0
  go_wp2_with fail
  refine c0.mono ?_;rintro e w1 ⟨rfl,hb1⟩;have HB1:=lh (HB0.o.trans (hb1.mono HB0.o.size));have hk1:=HK0.o.below hb1 HK0.o.lt;have Mh61:Hid (LsI (qa6 ndC) 136 3 w1 A6 c6 x.stubs):=lh (Mh60.o.below (qa1 ndC) (qa0 ndC) hb1);have Mh71:Hid (LsI (qa6 ndC) 136 3 w1 A7 c7 x.scions):=lh (Mh70.o.below (qa1 ndC) (qa0 ndC) hb1);have Mh81:Hid (LsI (qa6 ndC) 136 3 w1 A8 c8 x.checks):=lh (Mh80.o.below (qa1 ndC) (qa0 ndC) hb1);have fb0:cl w1 g 0 (iv x.machine):=hk1.cell 0;have fb1:cl w1 g 1 (iv x.epoch):=hk1.cell 1;have fb2:cl w1 g 2 (.slice A6 x.stubs.length c6):=hk1.cell 2;have fb3:cl w1 g 3 (.slice A7 x.scions.length c7):=hk1.cell 3;have fb4:cl w1 g 4 (.slice A8 x.checks.length c8):=hk1.cell 4;have HK1:=lh hk1;clear hb1 hk1 c0 a0 a1 a2 a3 a4
  cases h1:decide (x.epoch ≥ 0) with
  | true =>
   have q1:decide (x.epoch ≥ 0)=true:=h1;have H1:=lh h1;clear h1;have c2:=qv4 Mh61.o 1024
   cases h2:decide ((x.stubs.length:Int)≤1024) && x.stubs.all ndV with
   | true =>
    rw[h2] at c2;have H2:=lh h2;clear h2
    go_wp2_with fail
    refine c2.mono ?_;rintro e w2 ⟨rfl,hb2⟩;have HB2:=lh (HB1.o.trans (hb2.mono HB1.o.size));have hk2:=HK1.o.below hb2 HK1.o.lt;have Mh62:Hid (LsI (qa6 ndC) 136 3 w2 A6 c6 x.stubs):=lh (Mh61.o.below (qa1 ndC) (qa0 ndC) hb2);have Mh72:Hid (LsI (qa6 ndC) 136 3 w2 A7 c7 x.scions):=lh (Mh71.o.below (qa1 ndC) (qa0 ndC) hb2);have Mh82:Hid (LsI (qa6 ndC) 136 3 w2 A8 c8 x.checks):=lh (Mh81.o.below (qa1 ndC) (qa0 ndC) hb2);have fc0:cl w2 g 0 (iv x.machine):=hk2.cell 0;have fc1:cl w2 g 1 (iv x.epoch):=hk2.cell 1;have fc2:cl w2 g 2 (.slice A6 x.stubs.length c6):=hk2.cell 2;have fc3:cl w2 g 3 (.slice A7 x.scions.length c7):=hk2.cell 3;have fc4:cl w2 g 4 (.slice A8 x.checks.length c8):=hk2.cell 4;have HK2:=lh hk2;clear hb2 hk2 c2 fb0 fb1 fb2 fb3 fb4;have c3:=qv4 Mh72.o 1024
    cases h3:decide ((x.scions.length:Int)≤1024) && x.scions.all ndV with
    | true =>
     rw[h3] at c3;have H3:=lh h3;clear h3
     go_wp2_with fail
     refine c3.mono ?_;rintro e w3 ⟨rfl,hb3⟩;have HB3:=lh (HB2.o.trans (hb3.mono HB2.o.size));have hk3:=HK2.o.below hb3 HK2.o.lt;have Mh63:Hid (LsI (qa6 ndC) 136 3 w3 A6 c6 x.stubs):=lh (Mh62.o.below (qa1 ndC) (qa0 ndC) hb3);have Mh73:Hid (LsI (qa6 ndC) 136 3 w3 A7 c7 x.scions):=lh (Mh72.o.below (qa1 ndC) (qa0 ndC) hb3);have Mh83:Hid (LsI (qa6 ndC) 136 3 w3 A8 c8 x.checks):=lh (Mh82.o.below (qa1 ndC) (qa0 ndC) hb3);have fd0:cl w3 g 0 (iv x.machine):=hk3.cell 0;have fd1:cl w3 g 1 (iv x.epoch):=hk3.cell 1;have fd2:cl w3 g 2 (.slice A6 x.stubs.length c6):=hk3.cell 2;have fd3:cl w3 g 3 (.slice A7 x.scions.length c7):=hk3.cell 3;have fd4:cl w3 g 4 (.slice A8 x.checks.length c8):=hk3.cell 4;have HK3:=lh hk3;clear hb3 hk3 c3 fc0 fc1 fc2 fc3 fc4;have c4:=qv4 Mh83.o 1024
     cases h4:decide ((x.checks.length:Int)≤1024) && x.checks.all ndV with
     | true =>
      rw[h4] at c4;have H4:=lh h4;clear h4
      go_wp2_with fail
      refine c4.mono ?_;rintro e w4 ⟨rfl,hb4⟩;have HB4:=lh (HB3.o.trans (hb4.mono HB3.o.size));clear hb4 c4 fd0 fd1 fd2 fd3 fd4
      go_wp2_with fail
      go_ret;refine⟨cgb ?_,HB4.o⟩;rw[HR.o]
      simp[clV,lmV,H0.o,H1.o,H2.o,H3.o,H4.o]
     | false =>
      rw[h4] at c4;have H4:=lh h4;clear h4
      go_wp2_with fail
      refine c4.mono ?_;rintro e w4 ⟨rfl,hb4⟩;have HB4:=lh (HB3.o.trans (hb4.mono HB3.o.size));clear hb4 c4 fd0 fd1 fd2 fd3 fd4
      go_wp2_with fail
      go_ret;refine⟨cgb ?_,HB4.o⟩;rw[HR.o]
      simp[clV,lmV,H0.o,H1.o,H2.o,H3.o,H4.o]
    | false =>
     rw[h3] at c3;have H3:=lh h3;clear h3
     go_wp2_with fail
     refine c3.mono ?_;rintro e w3 ⟨rfl,hb3⟩;have HB3:=lh (HB2.o.trans (hb3.mono HB2.o.size));clear hb3 c3 fc0 fc1 fc2 fc3 fc4
     go_wp2_with fail
     go_ret;refine⟨cgb ?_,HB3.o⟩;rw[HR.o]
     simp[clV,lmV,H0.o,H1.o,H2.o,H3.o]
   | false =>
    rw[h2] at c2;have H2:=lh h2;clear h2
    go_wp2_with fail
    refine c2.mono ?_;rintro e w2 ⟨rfl,hb2⟩;have HB2:=lh (HB1.o.trans (hb2.mono HB1.o.size));clear hb2 c2 fb0 fb1 fb2 fb3 fb4
    go_wp2_with fail
    go_ret;refine⟨cgb ?_,HB2.o⟩;rw[HR.o]
    simp[clV,lmV,H0.o,H1.o,H2.o]
  | false =>
   have q1:decide (x.epoch ≥ 0)=false:=h1;have H1:=lh h1;clear h1
   go_wp2_with fail
   go_ret;refine⟨cgb ?_,HB1.o⟩;rw[HR.o]
   simp[clV,lmV,H0.o,H1.o]
 | false =>
  rw[h0] at c0;have H0:=lh h0;clear h0
  go_wp2_with fail
  refine c0.mono ?_;rintro e w1 ⟨rfl,hb1⟩;have HB1:=lh (HB0.o.trans (hb1.mono HB0.o.size));clear hb1 c0 a0 a1 a2 a3 a4
  go_wp2_with fail
  go_ret;refine⟨cgb ?_,HB1.o⟩;rw[HR.o]
  simp[clV,lmV,H0.o]
theorem qv7 {w:World} (x:Ms) {A1 A2 A3 A4 A5 A6 A7 A8:Option Addr} {c1 c2 c3 c4 c5 c6 c7 c8:Nat} :Calls Tryz.prog 89 #[.agg (mC x A1 A2 A3 A4 A5 A6 A7 A8 c1 c2 c3 c4 c5 c6 c7 c8)] w (qe7 w (trV x)):=by
 obtain⟨R,hR⟩:∃ R,R=trV x:=⟨_,rfl⟩
 rw[← hR];have HR:=lh hR
 obtain⟨W,hW⟩:∃ W,W=w.alloc (.cells (mC x A1 A2 A3 A4 A5 A6 A7 A8 c1 c2 c3 c4 c5 c6 c7 c8) 42):=⟨_,rfl⟩
 obtain⟨g,hg⟩:∃ g,g=w.heap.size:=⟨_,rfl⟩
 have hb0:bw w W:=by rw[hW];exact qa2 _ _
 have hk0:Bk W g 42 (mC x A1 A2 A3 A4 A5 A6 A7 A8 c1 c2 c3 c4 c5 c6 c7 c8):=by rw[hW,hg];exact Bk.new _ _ _
 have a24:cl W g 24 (iv x.tm):=hk0.cell 24;have a25:cl W g 25 (iv x.ts):=hk0.cell 25;have HK0:=lh hk0;have HB0:=lh hb0;clear hb0 hk0 hR
 go_enter Tryz.func89,Tryz.ntmps89
 go_upto_region 1 with fail
 rw[← hW,← hg];clear hW hg;have c0:=qi2 W x.tm
 cases h0:ql1 x.tm with
 | true =>
  rw[h0] at c0;have H0:=lh h0;clear h0
  go_wp2_with fail
  refine c0.mono ?_;rintro e w1 ⟨rfl,hb1⟩;have HB1:=lh (HB0.o.trans (hb1.mono HB0.o.size));have hk1:=HK0.o.below hb1 HK0.o.lt;have fb24:cl w1 g 24 (iv x.tm):=hk1.cell 24;have fb25:cl w1 g 25 (iv x.ts):=hk1.cell 25;have HK1:=lh hk1;clear hb1 hk1 c0 a24 a25
  cases h1:decide (x.ts ≥ 1) with
  | true =>
   have q1:decide (x.ts ≥ 1)=true:=h1;have H1:=lh h1;clear h1
   go_wp2_with fail
   go_ret;refine⟨cgb ?_,HB1.o⟩;rw[HR.o]
   simp[trV,H0.o,H1.o]
  | false =>
   have q1:decide (x.ts ≥ 1)=false:=h1;have H1:=lh h1;clear h1
   go_wp2_with fail
   go_ret;refine⟨cgb ?_,HB1.o⟩;rw[HR.o]
   simp[trV,H0.o,H1.o]
 | false =>
  rw[h0] at c0;have H0:=lh h0;clear h0
  go_wp2_with fail
  refine c0.mono ?_;rintro e w1 ⟨rfl,hb1⟩;have HB1:=lh (HB0.o.trans (hb1.mono HB0.o.size));clear hb1 c0 a24 a25
  go_wp2_with fail
  go_ret;refine⟨cgb ?_,HB1.o⟩;rw[HR.o]
  simp[trV,H0.o]
end
section
open Go.RowKit
attribute [local go_sem] Oper.semAt_some
def ql3 (x:Pc):Bool:=((x.mail.length:Int) == 0) && ((x.watches.length:Int) == 0)
def qn8 (x:Pc):Bool:=decide (x.cls ≥ 1) && decide (x.cls≤60) && lmV 30 plV x.fields
def wk1:List Rf→Bool
 | [f]=>wkV f
 | _=>false
def pcV (x:Pc):Bool:=idV x.idm x.ids && (if x.kind=0 then qn8 x && ql3 x else if x.kind=1 then qn8 x && lmV 1024 ltV x.mail && lmV 1024 waV x.watches else if x.kind=2 then (x.cls == 0) && wk1 x.fields && ql3 x else false)
structure PcEnv (w:World) (g:Nat) (x:Pc) (A2 A3 A4:Option Addr) (c2 c3 c4:Nat):Prop where
 bk:Bk w g 33 #[uv x.number,iv x.idm,iv x.ids,iv x.kind,iv x.cls,.slice A2 x.fields.length c2,.slice A3 x.mail.length c3,.slice A4 x.watches.length c4]
 f:LsI (qa6 rfC) 26 8 w A2 c2 x.fields
 m:LsI LtR 29 4 w A3 c3 x.mail
 v:LsI (qa6 waC) 65 12 w A4 c4 x.watches
theorem PcEnv.below {w w':World} {g:Nat} {x:Pc} {A2 A3 A4:Option Addr} {c2 c3 c4:Nat} (h:PcEnv w g x A2 A3 A4 c2 c3 c4) (hb:bw w w'):PcEnv w' g x A2 A3 A4 c2 c3 c4 :=
 ⟨h.bk.below hb h.bk.lt,h.f.below (qa1 rfC) (qa0 rfC) hb,h.m.below qg1 ltR_rk hb,h.v.below (qa1 waC) (qa0 waC) hb⟩
theorem Pc_any {w:World} (x:Pc) {A2 A3 A4:Option Addr} {c2 c3 c4:Nat} (hf:LsI (qa6 rfC) 26 8 w A2 c2 x.fields) (hm:LsI LtR 29 4 w A3 c3 x.mail) (hw:LsI (qa6 waC) 65 12 w A4 c4 x.watches):Calls Tryz.prog 81 #[.agg #[uv x.number,iv x.idm,iv x.ids,iv x.kind,iv x.cls,.slice A2 x.fields.length c2,.slice A3 x.mail.length c3,.slice A4 x.watches.length c4]] w (qe7 w (pcV x)):=by
 obtain⟨R,hR⟩:∃ R,R=pcV x:=⟨_,rfl⟩
 rw[← hR];have HR:=lh hR
 obtain⟨W,hW⟩:∃ W,W=w.alloc (.cells #[uv x.number,iv x.idm,iv x.ids,iv x.kind,iv x.cls,.slice A2 x.fields.length c2,.slice A3 x.mail.length c3,.slice A4 x.watches.length c4] 33):=⟨_,rfl⟩
 obtain⟨g,hg⟩:∃ g,g=w.heap.size:=⟨_,rfl⟩
 have hb0:bw w W:=by rw[hW];exact qa2 _ _
 have hk0:Bk W g 33 #[uv x.number,iv x.idm,iv x.ids,iv x.kind,iv x.cls,.slice A2 x.fields.length c2,.slice A3 x.mail.length c3,.slice A4 x.watches.length c4]:=by rw[hW,hg];exact Bk.new _ _ _
 have HE0:Hid (PcEnv W g x A2 A3 A4 c2 c3 c4):=lh ⟨hk0,hf.below (qa1 rfC) (qa0 rfC) hb0,hm.below qg1 ltR_rk hb0,hw.below (qa1 waC) (qa0 waC) hb0⟩;have HB0:=lh hb0;have a0:cl W g 0 (uv x.number):=hk0.cell 0;have a1:cl W g 1 (iv x.idm):=hk0.cell 1;have a2:cl W g 2 (iv x.ids):=hk0.cell 2;have a3:cl W g 3 (iv x.kind):=hk0.cell 3;have a4:cl W g 4 (iv x.cls):=hk0.cell 4;have a5:cl W g 5 (.slice A2 x.fields.length c2):=hk0.cell 5;have a6:cl W g 6 (.slice A3 x.mail.length c3):=hk0.cell 6;have a7:cl W g 7 (.slice A4 x.watches.length c4):=hk0.cell 7;have cI:=qv9 W x.idm x.ids;clear hb0 hk0 hR hf hm hw
 go_enter Tryz.func81,Tryz.ntmps81
 go_upto_region 1 with fail
 rw[← hW,← hg];clear hW hg
 cases h0:idV x.idm x.ids with
 | false =>
  rw[h0] at cI;have H0:=lh h0;clear h0
  go_wp2_with fail
  refine cI.mono ?_;rintro e w1 ⟨rfl,hb1⟩;have HB1:=lh (HB0.o.trans (hb1.mono HB0.o.size));clear hb1 cI a0 a1 a2 a3 a4 a5 a6 a7
  go_wp2_with fail
  go_ret;refine⟨cgb ?_,HB1.o⟩;rw[HR.o]
  simp[pcV,H0.o]
 | true =>
  rw[h0] at cI;have H0:=lh h0;clear h0
  go_wp2_with fail
  refine cI.mono ?_;rintro e w1 ⟨rfl,hb1⟩;have HB1:=lh (HB0.o.trans (hb1.mono HB0.o.size));have HE1:=lh (HE0.o.below hb1);clear hb1 cI a0 a1 a2 a3 a4 a5 a6 a7;have b0:cl w1 g 0 (uv x.number):=HE1.o.bk.cell 0;have b1:cl w1 g 1 (iv x.idm):=HE1.o.bk.cell 1;have b2:cl w1 g 2 (iv x.ids):=HE1.o.bk.cell 2;have b3:cl w1 g 3 (iv x.kind):=HE1.o.bk.cell 3;have b4:cl w1 g 4 (iv x.cls):=HE1.o.bk.cell 4;have b5:cl w1 g 5 (.slice A2 x.fields.length c2):=HE1.o.bk.cell 5;have b6:cl w1 g 6 (.slice A3 x.mail.length c3):=HE1.o.bk.cell 6;have b7:cl w1 g 7 (.slice A4 x.watches.length c4):=HE1.o.bk.cell 7
  go_upto_region 3 with fail
  go_cut [3] from 9 to 18 (fun s3 wx=>s3=.bool (ql3 x)∧wx=w1)
  case first =>
   cases h1:((x.mail.length:Int) == 0) with
   | true =>
    cases h2:((x.watches.length:Int) == 0) with
    | true =>
     have q1:((x.mail.length:Int) == 0)=true:=h1;have q2:((x.watches.length:Int) == 0)=true:=h2;have H1:=lh h1;have H2:=lh h2;clear h1 h2
     go_wp2_with fail
     go_meet
     exact⟨by simp only[ql3,H1.o,H2.o];rfl,rfl⟩
    | false =>
     have q1:((x.mail.length:Int) == 0)=true:=h1;have q2:((x.watches.length:Int) == 0)=false:=h2;have H1:=lh h1;have H2:=lh h2;clear h1 h2
     go_wp2_with fail
     go_meet
     exact⟨by simp only[ql3,H1.o,H2.o];rfl,rfl⟩
   | false =>
    have q1:((x.mail.length:Int) == 0)=false:=h1;have H1:=lh h1;clear h1
    go_wp2_with fail
    go_meet
    exact⟨by simp only[ql3,H1.o];rfl,rfl⟩
  case rest =>
   obtain⟨rfl,hwx⟩:=hcut;subst hwx
   obtain⟨B3,hB3⟩:∃ B3,B3=ql3 x:=⟨_,rfl⟩
   rw[← hB3];have HV3:=lh hB3;clear hB3
   obtain⟨wo,rfl⟩:∃ wo:World,wo=wc:=⟨_,rfl⟩
   go_upto_region 4 with fail
   have hsw:=HB1.o.size
   go_cut [4] from 19 to 31 (fun s4 wx=>s4=.bool (qn8 x)∧bw wo wx)
   case first =>
    have cA:=allRf_any HE1.o.f 30
    cases h1:decide (x.cls ≥ 1) with
    | false =>
     have q1:decide (x.cls ≥ 1)=false:=h1;have H1:=lh h1;clear h1
     go_wp2_with fail
     go_meet
     exact⟨by simp only[qn8,H1.o];rfl,Below.refl _ _⟩
    | true =>
     have q1:decide (x.cls ≥ 1)=true:=h1;have H1:=lh h1;clear h1
     cases h2:decide (x.cls≤60) with
     | false =>
      have q2:decide (x.cls≤60)=false:=h2;have H2:=lh h2;clear h2
      go_wp2_with fail
      go_meet
      exact⟨by simp only[qn8,H1.o,H2.o];rfl,Below.refl _ _⟩
     | true =>
      have q2:decide (x.cls≤60)=true:=h2;have H2:=lh h2;clear h2
      go_wp2_with fail
      refine cA.mono ?_;rintro e w2 ⟨rfl,hb2⟩;have HB2:=lh hb2;clear hb2 cA b0 b1 b2 b3 b4 b5 b6 b7
      go_wp2_with fail
      go_meet
      exact⟨by simp only[qn8,H1.o,H2.o,lmV];simp,HB2.o⟩
   case rest =>
    obtain⟨rfl,hbx⟩:=hcut
    obtain⟨B4,hB4⟩:∃ B4,B4=qn8 x:=⟨_,rfl⟩
    rw[← hB4];have HV4:=lh hB4;clear hB4;have HE2:=lh (HE1.o.below hbx);have HB2:=lh (HB1.o.trans (hbx.mono hsw));clear hbx b0 b1 b2 b3 b4 b5 b6 b7
    obtain⟨w2,rfl⟩:∃ w2:World,w2=wc:=⟨_,rfl⟩
    have d0:cl w2 g 0 (uv x.number):=HE2.o.bk.cell 0;have d1:cl w2 g 1 (iv x.idm):=HE2.o.bk.cell 1;have d2:cl w2 g 2 (iv x.ids):=HE2.o.bk.cell 2;have d3:cl w2 g 3 (iv x.kind):=HE2.o.bk.cell 3;have d4:cl w2 g 4 (iv x.cls):=HE2.o.bk.cell 4;have d5:cl w2 g 5 (.slice A2 x.fields.length c2):=HE2.o.bk.cell 5;have d6:cl w2 g 6 (.slice A3 x.mail.length c3):=HE2.o.bk.cell 6;have d7:cl w2 g 7 (.slice A4 x.watches.length c4):=HE2.o.bk.cell 7
    by_cases k0:x.kind=0
    ·have H5:=lh k0;rw[k0] at d3;clear k0
     cases B4 with
     | false =>
      go_wp2_with fail
      go_ret;refine⟨cgb ?_,HB2.o⟩;rw[HR.o]
      simp[pcV,H0.o,H5.o,← HV4.o,← HV3.o]
     | true =>
      go_wp2_with fail
      go_ret;refine⟨cgb ?_,HB2.o⟩;rw[HR.o]
      simp[pcV,H0.o,H5.o,← HV4.o,← HV3.o]
    ·have f0:(x.kind == 0)=false:=by simpa using k0
     by_cases k1:x.kind=1
     ·have H5:=lh k1;rw[k1] at d3;clear k0 f0 k1
      cases B4 with
      | false =>
       go_wp2_with fail
       go_ret;refine⟨cgb ?_,HB2.o⟩;rw[HR.o]
       simp[pcV,H0.o,H5.o,← HV4.o,← HV3.o]
      | true =>
       have cc:=allLt_any HE2.o.m 1024
       cases hh:(decide ((x.mail.length:Int)≤1024) && x.mail.all ltV) with
       | false =>
        rw[hh] at cc;have H6:=lh hh;clear hh
        go_wp2_with fail
        refine cc.mono ?_;rintro e w3 ⟨rfl,hbq⟩;have HB3:=lh (HB2.o.trans (hbq.mono HB2.o.size));have HE3:=lh (HE2.o.below hbq);clear hbq cc d0 d1 d2 d3 d4 d5 d6 d7
        go_wp2_with fail
        go_ret;refine⟨cgb ?_,HB3.o⟩;rw[HR.o]
        simp[pcV,H0.o,H5.o,lmV,H6.o]
       | true =>
        rw[hh] at cc;have H6:=lh hh;clear hh
        go_wp2_with fail
        refine cc.mono ?_;rintro e w3 ⟨rfl,hbq⟩;have HB3:=lh (HB2.o.trans (hbq.mono HB2.o.size));have HE3:=lh (HE2.o.below hbq);clear hbq cc d0 d1 d2 d3 d4 d5 d6 d7;have f0:cl w3 g 0 (uv x.number):=HE3.o.bk.cell 0;have f1:cl w3 g 1 (iv x.idm):=HE3.o.bk.cell 1;have f2:cl w3 g 2 (iv x.ids):=HE3.o.bk.cell 2;have f3:cl w3 g 3 (iv x.kind):=HE3.o.bk.cell 3;have f4:cl w3 g 4 (iv x.cls):=HE3.o.bk.cell 4;have f5:cl w3 g 5 (.slice A2 x.fields.length c2):=HE3.o.bk.cell 5;have f6:cl w3 g 6 (.slice A3 x.mail.length c3):=HE3.o.bk.cell 6;have f7:cl w3 g 7 (.slice A4 x.watches.length c4):=HE3.o.bk.cell 7;have cc:=allWa_any HE3.o.v 1024
        cases hh:(decide ((x.watches.length:Int)≤1024) && x.watches.all waV) with
        | false =>
         rw[hh] at cc;have H7:=lh hh;clear hh
         go_wp2_with fail
         refine cc.mono ?_;rintro e w4 ⟨rfl,hbq⟩;have HB4:=lh (HB3.o.trans (hbq.mono HB3.o.size));have HE4:=lh (HE3.o.below hbq);clear hbq cc f0 f1 f2 f3 f4 f5 f6 f7
         go_wp2_with fail
         go_ret;refine⟨cgb ?_,HB4.o⟩;rw[HR.o]
         simp[pcV,H0.o,H5.o,← HV4.o,lmV,H6.o,H7.o]
        | true =>
         rw[hh] at cc;have H7:=lh hh;clear hh
         go_wp2_with fail
         refine cc.mono ?_;rintro e w4 ⟨rfl,hbq⟩;have HB4:=lh (HB3.o.trans (hbq.mono HB3.o.size));have HE4:=lh (HE3.o.below hbq);clear hbq cc f0 f1 f2 f3 f4 f5 f6 f7
         go_wp2_with fail
         go_ret;refine⟨cgb ?_,HB4.o⟩;rw[HR.o]
         simp[pcV,H0.o,H5.o,← HV4.o,lmV,H6.o,H7.o]
     ·have f1:(x.kind == 1)=false:=by simpa using k1
      by_cases k2:x.kind=2
      ·have H5:=lh k2;rw[k2] at d3;clear k0 f0 k1 f1 k2
       cases h6:(x.cls == 0) with
       | false =>
        have q6:(x.cls == 0)=false:=h6;have H6:=lh h6;clear h6
        go_wp2_with fail
        go_ret;refine⟨cgb ?_,HB2.o⟩;rw[HR.o]
        simp[pcV,H0.o,H5.o,H6.o]
       | true =>
        have q6:(x.cls == 0)=true:=h6;have H6:=lh h6;clear h6
        cases h7:((x.fields.length:Int) == 1) with
        | false =>
         have q7:((x.fields.length:Int) == 1)=false:=h7
         have H7:Hid (wk1 x.fields=false):=lh (by
          rcases hh:x.fields with _ | ⟨f,_ | ⟨f2,l⟩⟩
          ·rfl
          ·rw[hh] at h7;cases h7
          ·rfl)
         clear h7
         go_wp2_with fail
         go_ret;refine⟨cgb ?_,HB2.o⟩;rw[HR.o]
         simp[pcV,H0.o,H5.o,H6.o,H7.o]
        | true =>
         have q7:((x.fields.length:Int) == 1)=true:=h7;have hl1:x.fields.length=1:=by have:=beq_iff_eq.1 h7;omega
         obtain⟨f,hf⟩:=List.length_eq_one_iff.1 hl1;obtain⟨b,oo,r,hA2,_,hr,hcells⟩:=HE2.o.f.get (k:=0) (x:=f) (by rw[hf];rfl);unfold qa6 at hr;subst hr;subst hA2;have x0:w2.cell? ⟨b,oo,none⟩=some (iv f.kind):=by simpa using hcells 0 _ rfl
         have x1:w2.cell? ⟨b,oo+1,none⟩=some (iv f.int):=by simpa using hcells 1 _ rfl
         have x2:w2.cell? ⟨b,oo+2,none⟩=some (iv f.owner):=by simpa using hcells 2 _ rfl
         have x3:w2.cell? ⟨b,oo+3,none⟩=some (uv f.number):=by simpa using hcells 3 _ rfl
         have x4:w2.cell? ⟨b,oo+4,none⟩=some (iv f.idm):=by simpa using hcells 4 _ rfl
         have x5:w2.cell? ⟨b,oo+5,none⟩=some (iv f.ids):=by simpa using hcells 5 _ rfl
         have x6:w2.cell? ⟨b,oo+6,none⟩=some (iv f.cls):=by simpa using hcells 6 _ rfl
         have x7:w2.cell? ⟨b,oo+7,none⟩=some (.bool f.weak):=by simpa using hcells 7 _ rfl
         have H7:Hid (wk1 x.fields=wkV f):=lh (by rw[hf];rfl);have hll:0 < x.fields.length:=by omega
         have cc:=Wk_any (w:=w2) f;clear hcells hf h7 hl1
         cases hh:wkV f with
         | false =>
          rw[hh] at cc;have H8:=lh hh;clear hh
          go_wp2_with fail
          refine cc.mono ?_;rintro e w3 ⟨rfl,hbq⟩;have HBq:=lh (HB2.o.trans (hbq.mono HB2.o.size));clear hbq cc d0 d1 d2 d3 d4 d5 d6 d7 x0 x1 x2 x3 x4 x5 x6 x7
          go_wp2_with fail
          go_ret;refine⟨cgb ?_,HBq.o⟩;rw[HR.o]
          simp[pcV,H0.o,H5.o,H6.o,H7.o,H8.o,← HV3.o]
         | true =>
          rw[hh] at cc;have H8:=lh hh;clear hh
          go_wp2_with fail
          refine cc.mono ?_;rintro e w3 ⟨rfl,hbq⟩;have HBq:=lh (HB2.o.trans (hbq.mono HB2.o.size));clear hbq cc d0 d1 d2 d3 d4 d5 d6 d7 x0 x1 x2 x3 x4 x5 x6 x7
          go_wp2_with fail
          go_ret;refine⟨cgb ?_,HBq.o⟩;rw[HR.o]
          simp[pcV,H0.o,H5.o,H6.o,H7.o,H8.o,← HV3.o]
      ·have f2:(x.kind == 2)=false:=by simpa using k2
       have H5:=lh (And.intro k0 (And.intro k1 k2));clear k0 k1 k2
       go_wp2_with fail
       go_ret;refine⟨cgb ?_,HB2.o⟩;rw[HR.o]
       simp[pcV,H0.o,H5.o]
end
section
open Go.RowKit
attribute [local go_sem] Oper.semAt_some
def RetB (v:Value) (w:World) (e:Ending) (w':World):Prop:=e=.returned v∧bw w w'
theorem qv3 {w:World} {g:Nat} {t:TypeId} {u0 u1 u2 u3:Value} (h:Bk w g t #[u0,u1,u2,u3]) (v0 v1 v2 v3:Value):Bk (((((w).setCell ⟨g,0,none⟩ (v0)).setCell ⟨g,1,none⟩ (v1)).setCell ⟨g,2,none⟩ (v2)).setCell ⟨g,3,none⟩ (v3)) g t #[v0,v1,v2,v3]:=by
 simpa using ((((h.set 0 (v0)).set 1 (v1)).set 2 (v2)).set 3 (v3))
theorem qs8 {w:World} {g:Nat} (v0 v1 v2 v3:Value):Kp (fun k=>k=g) w (((((w).setCell ⟨g,0,none⟩ (v0)).setCell ⟨g,1,none⟩ (v1)).setCell ⟨g,2,none⟩ (v2)).setCell ⟨g,3,none⟩ (v3)) :=
 ((((Kp.refl _ _).trans (Kp.setCell (S:=fun k=>k=g) _ ⟨g,0,none⟩ v0 rfl) (fun _ _ h=>h)).trans (Kp.setCell (S:=fun k=>k=g) _ ⟨g,1,none⟩ v1 rfl) (fun _ _ h=>h)).trans (Kp.setCell (S:=fun k=>k=g) _ ⟨g,2,none⟩ v2 rfl) (fun _ _ h=>h)).trans (Kp.setCell (S:=fun k=>k=g) _ ⟨g,3,none⟩ v3 rfl) (fun _ _ h=>h)
theorem qp5 (w:World) (s:ByteArray):Calls Tryz.prog 106 #[.string s] w (RetB (.agg #[.string s,.func (.func 143) #[] #[],.func (.func 144) #[] #[],.func (.func 145) #[] #[]]) w):=by
 obtain⟨W,hW⟩:∃ W,W=w.alloc (.cells #[.string ⟨#[]⟩,.nilFunc,.nilFunc,.nilFunc] 68):=⟨_,rfl⟩
 obtain⟨g,hg⟩:∃ g,g=w.heap.size:=⟨_,rfl⟩
 have hb0:bw w W:=by rw[hW];exact qa2 _ _
 have hk0:Bk W g 68 #[.string ⟨#[]⟩,.nilFunc,.nilFunc,.nilFunc]:=by rw[hW,hg];exact Bk.new _ _ _
 have a0:cl W g 0 (.string ⟨#[]⟩):=hk0.cell 0;have a1:cl W g 1 (.nilFunc):=hk0.cell 1;have a2:cl W g 2 (.nilFunc):=hk0.cell 2;have a3:cl W g 3 (.nilFunc):=hk0.cell 3;have e0:∀ j,W.frozen? ⟨g,j,none⟩=false:=fun j=>hk0.free j;have HB0:=lh hb0;have HK0:=lh hk0;have HG:=lh hg;clear hb0 hk0
 go_enter Tryz.func106,Tryz.ntmps106
 go_upto_region 1 with fail
 rw[← hW,← hg];clear hW hg
 go_wp2_with fail
 clear a0 a1 a2 a3
 try simp only[Exit.inBlock,Exit.then]
 have hbk:=qv3 HK0.o (.string s) (.func (.func 143) #[] #[]) (.func (.func 144) #[] #[]) (.func (.func 145) #[] #[]);have r0:=hbk.cell 0;have r1:=hbk.cell 1;have r2:=hbk.cell 2;have r3:=hbk.cell 3;simp only[List.getElem?_toArray,List.getElem?_cons_zero,List.getElem?_cons_succ] at r0 r1 r2 r3;refine bodyPost_ret (v:=.agg #[.string s,.func (.func 143) #[] #[],.func (.func 144) #[] #[],.func (.func 145) #[] #[]]) (by simp[results,Tryz.results106,r0,r1,r2,r3,go_sem]) rfl ?_;exact⟨rfl,(qs8 (g:=g) _ _ _ _).toBelow HB0.o HB0.o.size fun k e=>by have:=HG.o;omega⟩
theorem qr8 (w:World) (s:ByteArray):Calls Tryz.prog 107 #[.string s] w (RetB (.agg #[.string s,.func (.func 146) #[] #[],.func (.func 147) #[] #[],.func (.func 148) #[] #[]]) w):=by
 obtain⟨W,hW⟩:∃ W,W=w.alloc (.cells #[.string ⟨#[]⟩,.nilFunc,.nilFunc,.nilFunc] 68):=⟨_,rfl⟩
 obtain⟨g,hg⟩:∃ g,g=w.heap.size:=⟨_,rfl⟩
 have hb0:bw w W:=by rw[hW];exact qa2 _ _
 have hk0:Bk W g 68 #[.string ⟨#[]⟩,.nilFunc,.nilFunc,.nilFunc]:=by rw[hW,hg];exact Bk.new _ _ _
 have a0:cl W g 0 (.string ⟨#[]⟩):=hk0.cell 0;have a1:cl W g 1 (.nilFunc):=hk0.cell 1;have a2:cl W g 2 (.nilFunc):=hk0.cell 2;have a3:cl W g 3 (.nilFunc):=hk0.cell 3;have e0:∀ j,W.frozen? ⟨g,j,none⟩=false:=fun j=>hk0.free j;have HB0:=lh hb0;have HK0:=lh hk0;have HG:=lh hg;clear hb0 hk0
 go_enter Tryz.func107,Tryz.ntmps107
 go_upto_region 1 with fail
 rw[← hW,← hg];clear hW hg
 go_wp2_with fail
 clear a0 a1 a2 a3
 try simp only[Exit.inBlock,Exit.then]
 have hbk:=qv3 HK0.o (.string s) (.func (.func 146) #[] #[]) (.func (.func 147) #[] #[]) (.func (.func 148) #[] #[]);have r0:=hbk.cell 0;have r1:=hbk.cell 1;have r2:=hbk.cell 2;have r3:=hbk.cell 3;simp only[List.getElem?_toArray,List.getElem?_cons_zero,List.getElem?_cons_succ] at r0 r1 r2 r3;refine bodyPost_ret (v:=.agg #[.string s,.func (.func 146) #[] #[],.func (.func 147) #[] #[],.func (.func 148) #[] #[]]) (by simp[results,Tryz.results107,r0,r1,r2,r3,go_sem]) rfl ?_;exact⟨rfl,(qs8 (g:=g) _ _ _ _).toBelow HB0.o HB0.o.size fun k e=>by have:=HG.o;omega⟩
theorem qk4 (w:World) (s:ByteArray):Calls Tryz.prog 108 #[.string s] w (RetB (.agg #[.string s,.func (.func 149) #[] #[],.func (.func 89) #[] #[],.func (.func 150) #[] #[]]) w):=by
 obtain⟨W,hW⟩:∃ W,W=w.alloc (.cells #[.string ⟨#[]⟩,.nilFunc,.nilFunc,.nilFunc] 68):=⟨_,rfl⟩
 obtain⟨g,hg⟩:∃ g,g=w.heap.size:=⟨_,rfl⟩
 have hb0:bw w W:=by rw[hW];exact qa2 _ _
 have hk0:Bk W g 68 #[.string ⟨#[]⟩,.nilFunc,.nilFunc,.nilFunc]:=by rw[hW,hg];exact Bk.new _ _ _
 have a0:cl W g 0 (.string ⟨#[]⟩):=hk0.cell 0;have a1:cl W g 1 (.nilFunc):=hk0.cell 1;have a2:cl W g 2 (.nilFunc):=hk0.cell 2;have a3:cl W g 3 (.nilFunc):=hk0.cell 3;have e0:∀ j,W.frozen? ⟨g,j,none⟩=false:=fun j=>hk0.free j;have HB0:=lh hb0;have HK0:=lh hk0;have HG:=lh hg;clear hb0 hk0
 go_enter Tryz.func108,Tryz.ntmps108
 go_upto_region 1 with fail
 rw[← hW,← hg];clear hW hg
 go_wp2_with fail
 clear a0 a1 a2 a3
 try simp only[Exit.inBlock,Exit.then]
 have hbk:=qv3 HK0.o (.string s) (.func (.func 149) #[] #[]) (.func (.func 89) #[] #[]) (.func (.func 150) #[] #[]);have r0:=hbk.cell 0;have r1:=hbk.cell 1;have r2:=hbk.cell 2;have r3:=hbk.cell 3;simp only[List.getElem?_toArray,List.getElem?_cons_zero,List.getElem?_cons_succ] at r0 r1 r2 r3;refine bodyPost_ret (v:=.agg #[.string s,.func (.func 149) #[] #[],.func (.func 89) #[] #[],.func (.func 150) #[] #[]]) (by simp[results,Tryz.results108,r0,r1,r2,r3,go_sem]) rfl ?_;exact⟨rfl,(qs8 (g:=g) _ _ _ _).toBelow HB0.o HB0.o.size fun k e=>by have:=HG.o;omega⟩
theorem bare_any (w:World) (s:ByteArray):Calls Tryz.prog 109 #[.string s] w (RetB (.agg #[.string s,.func (.func 151) #[] #[],.func (.func 152) #[] #[],.func (.func 153) #[] #[]]) w):=by
 obtain⟨W,hW⟩:∃ W,W=w.alloc (.cells #[.string ⟨#[]⟩,.nilFunc,.nilFunc,.nilFunc] 68):=⟨_,rfl⟩
 obtain⟨g,hg⟩:∃ g,g=w.heap.size:=⟨_,rfl⟩
 have hb0:bw w W:=by rw[hW];exact qa2 _ _
 have hk0:Bk W g 68 #[.string ⟨#[]⟩,.nilFunc,.nilFunc,.nilFunc]:=by rw[hW,hg];exact Bk.new _ _ _
 have a0:cl W g 0 (.string ⟨#[]⟩):=hk0.cell 0;have a1:cl W g 1 (.nilFunc):=hk0.cell 1;have a2:cl W g 2 (.nilFunc):=hk0.cell 2;have a3:cl W g 3 (.nilFunc):=hk0.cell 3;have e0:∀ j,W.frozen? ⟨g,j,none⟩=false:=fun j=>hk0.free j;have HB0:=lh hb0;have HK0:=lh hk0;have HG:=lh hg;clear hb0 hk0
 go_enter Tryz.func109,Tryz.ntmps109
 go_upto_region 1 with fail
 rw[← hW,← hg];clear hW hg
 go_wp2_with fail
 clear a0 a1 a2 a3
 try simp only[Exit.inBlock,Exit.then]
 have hbk:=qv3 HK0.o (.string s) (.func (.func 151) #[] #[]) (.func (.func 152) #[] #[]) (.func (.func 153) #[] #[]);have r0:=hbk.cell 0;have r1:=hbk.cell 1;have r2:=hbk.cell 2;have r3:=hbk.cell 3;simp only[List.getElem?_toArray,List.getElem?_cons_zero,List.getElem?_cons_succ] at r0 r1 r2 r3;refine bodyPost_ret (v:=.agg #[.string s,.func (.func 151) #[] #[],.func (.func 152) #[] #[],.func (.func 153) #[] #[]]) (by simp[results,Tryz.results109,r0,r1,r2,r3,go_sem]) rfl ?_;exact⟨rfl,(qs8 (g:=g) _ _ _ _).toBelow HB0.o HB0.o.size fun k e=>by have:=HG.o;omega⟩
def ktab:List Value:=[.string ⟨#[100,101,108,105,118,101,114]⟩,.func (.func 72) #[] #[],.func (.func 73) #[] #[],.func (.func 75) #[] #[],.string ⟨#[109,111,118,101]⟩,.func (.func 79) #[] #[],.func (.func 80) #[] #[],.func (.func 82) #[] #[],.string ⟨#[102,101,116,99,104]⟩,.func (.func 143) #[] #[],.func (.func 144) #[] #[],.func (.func 145) #[] #[],.string ⟨#[97,115,107]⟩,.func (.func 143) #[] #[],.func (.func 144) #[] #[],.func (.func 145) #[] #[],.string ⟨#[97,108,105,118,101]⟩,.func (.func 146) #[] #[],.func (.func 147) #[] #[],.func (.func 148) #[] #[],.string ⟨#[100,101,97,100]⟩,.func (.func 84) #[] #[],.func (.func 85) #[] #[],.func (.func 86) #[] #[],.string ⟨#[108,111,99,97,116,101]⟩,.func (.func 143) #[] #[],.func (.func 144) #[] #[],.func (.func 145) #[] #[],.string ⟨#[108,111,99,97,116,101,100]⟩,.func (.func 146) #[] #[],.func (.func 147) #[] #[],.func (.func 148) #[] #[],.string ⟨#[113,117,101,114,121]⟩,.func (.func 87) #[] #[],.func (.func 88) #[] #[],.func (.func 90) #[] #[],.string ⟨#[97,110,115,119,101,114]⟩,.func (.func 92) #[] #[],.func (.func 93) #[] #[],.func (.func 95) #[] #[],.string ⟨#[99,111,110,102,105,114,109]⟩,.func (.func 96) #[] #[],.func (.func 97) #[] #[],.func (.func 99) #[] #[],.string ⟨#[97,103,114,101,101]⟩,.func (.func 149) #[] #[],.func (.func 89) #[] #[],.func (.func 150) #[] #[],.string ⟨#[114,101,102,117,115,101]⟩,.func (.func 149) #[] #[],.func (.func 89) #[] #[],.func (.func 150) #[] #[],.string ⟨#[99,111,109,109,105,116]⟩,.func (.func 149) #[] #[],.func (.func 89) #[] #[],.func (.func 150) #[] #[],.string ⟨#[97,98,111,114,116]⟩,.func (.func 149) #[] #[],.func (.func 89) #[] #[],.func (.func 150) #[] #[],.string ⟨#[108,101,97,118,105,110,103]⟩,.func (.func 151) #[] #[],.func (.func 152) #[] #[],.func (.func 153) #[] #[],.string ⟨#[103,111,111,100,98,121,101]⟩,.func (.func 151) #[] #[],.func (.func 152) #[] #[],.func (.func 153) #[] #[],.string ⟨#[114,111,111,116]⟩,.func (.func 100) #[] #[],.func (.func 101) #[] #[],.func (.func 104) #[] #[]]
theorem kinds_any (w:World):Calls Tryz.prog 47 #[] w fun e w'=>∃ b,e=.returned (.slice (some ⟨b,0,none⟩) 18 18)∧bw w w'∧Bk w' b 68 ktab.toArray:=by
 obtain⟨x0,hx0⟩:∃ x0,x0=w.alloc (.cells #[.string ⟨#[100,101,108,105,118,101,114]⟩,.func (.func 72) #[] #[],.func (.func 73) #[] #[],.func (.func 75) #[] #[]] 68):=⟨_,rfl⟩
 obtain⟨k0,hk0⟩:∃ k0,k0=w.heap.size:=⟨_,rfl⟩
 have hb0:bw w x0:=by rw[hx0];exact qa2 _ _
 have hq0:Bk x0 k0 68 #[.string ⟨#[100,101,108,105,118,101,114]⟩,.func (.func 72) #[] #[],.func (.func 73) #[] #[],.func (.func 75) #[] #[]]:=by rw[hx0,hk0];exact Bk.new _ _ _
 have hz0:w.heap.size≤x0.heap.size:=hb0.size
 obtain⟨x1,hx1⟩:∃ x1,x1=x0.alloc (.cells #[.string ⟨#[109,111,118,101]⟩,.func (.func 79) #[] #[],.func (.func 80) #[] #[],.func (.func 82) #[] #[]] 68):=⟨_,rfl⟩
 obtain⟨k1,hk1⟩:∃ k1,k1=x0.heap.size:=⟨_,rfl⟩
 have hb1:bw x0 x1:=by rw[hx1];exact qa2 _ _
 have hq1:Bk x1 k1 68 #[.string ⟨#[109,111,118,101]⟩,.func (.func 79) #[] #[],.func (.func 80) #[] #[],.func (.func 82) #[] #[]]:=by rw[hx1,hk1];exact Bk.new _ _ _
 have hz1:x0.heap.size≤x1.heap.size:=hb1.size
 obtain⟨x2,hx2⟩:∃ x2,x2=x1.alloc (.cells #[.string ⟨#[100,101,97,100]⟩,.func (.func 84) #[] #[],.func (.func 85) #[] #[],.func (.func 86) #[] #[]] 68):=⟨_,rfl⟩
 obtain⟨k2,hk2⟩:∃ k2,k2=x1.heap.size:=⟨_,rfl⟩
 have hb2:bw x1 x2:=by rw[hx2];exact qa2 _ _
 have hq2:Bk x2 k2 68 #[.string ⟨#[100,101,97,100]⟩,.func (.func 84) #[] #[],.func (.func 85) #[] #[],.func (.func 86) #[] #[]]:=by rw[hx2,hk2];exact Bk.new _ _ _
 have hz2:x1.heap.size≤x2.heap.size:=hb2.size
 obtain⟨x3,hx3⟩:∃ x3,x3=x2.alloc (.cells #[.string ⟨#[113,117,101,114,121]⟩,.func (.func 87) #[] #[],.func (.func 88) #[] #[],.func (.func 90) #[] #[]] 68):=⟨_,rfl⟩
 obtain⟨k3,hk3⟩:∃ k3,k3=x2.heap.size:=⟨_,rfl⟩
 have hb3:bw x2 x3:=by rw[hx3];exact qa2 _ _
 have hq3:Bk x3 k3 68 #[.string ⟨#[113,117,101,114,121]⟩,.func (.func 87) #[] #[],.func (.func 88) #[] #[],.func (.func 90) #[] #[]]:=by rw[hx3,hk3];exact Bk.new _ _ _
 have hz3:x2.heap.size≤x3.heap.size:=hb3.size
 obtain⟨x4,hx4⟩:∃ x4,x4=x3.alloc (.cells #[.string ⟨#[97,110,115,119,101,114]⟩,.func (.func 92) #[] #[],.func (.func 93) #[] #[],.func (.func 95) #[] #[]] 68):=⟨_,rfl⟩
 obtain⟨k4,hk4⟩:∃ k4,k4=x3.heap.size:=⟨_,rfl⟩
 have hb4:bw x3 x4:=by rw[hx4];exact qa2 _ _
 have hq4:Bk x4 k4 68 #[.string ⟨#[97,110,115,119,101,114]⟩,.func (.func 92) #[] #[],.func (.func 93) #[] #[],.func (.func 95) #[] #[]]:=by rw[hx4,hk4];exact Bk.new _ _ _
 have hz4:x3.heap.size≤x4.heap.size:=hb4.size
 obtain⟨x5,hx5⟩:∃ x5,x5=x4.alloc (.cells #[.string ⟨#[99,111,110,102,105,114,109]⟩,.func (.func 96) #[] #[],.func (.func 97) #[] #[],.func (.func 99) #[] #[]] 68):=⟨_,rfl⟩
 obtain⟨k5,hk5⟩:∃ k5,k5=x4.heap.size:=⟨_,rfl⟩
 have hb5:bw x4 x5:=by rw[hx5];exact qa2 _ _
 have hq5:Bk x5 k5 68 #[.string ⟨#[99,111,110,102,105,114,109]⟩,.func (.func 96) #[] #[],.func (.func 97) #[] #[],.func (.func 99) #[] #[]]:=by rw[hx5,hk5];exact Bk.new _ _ _
 have hz5:x4.heap.size≤x5.heap.size:=hb5.size
 obtain⟨x6,hx6⟩:∃ x6,x6=x5.alloc (.cells #[.string ⟨#[114,111,111,116]⟩,.func (.func 100) #[] #[],.func (.func 101) #[] #[],.func (.func 104) #[] #[]] 68):=⟨_,rfl⟩
 obtain⟨k6,hk6⟩:∃ k6,k6=x5.heap.size:=⟨_,rfl⟩
 have hb6:bw x5 x6:=by rw[hx6];exact qa2 _ _
 have hq6:Bk x6 k6 68 #[.string ⟨#[114,111,111,116]⟩,.func (.func 100) #[] #[],.func (.func 101) #[] #[],.func (.func 104) #[] #[]]:=by rw[hx6,hk6];exact Bk.new _ _ _
 have hz6:x5.heap.size≤x6.heap.size:=hb6.size;have Hq0:=lh (((((((hq0).below hb1 (hq0).lt).below hb2 ((hq0).below hb1 (hq0).lt).lt).below hb3 (((hq0).below hb1 (hq0).lt).below hb2 ((hq0).below hb1 (hq0).lt).lt).lt).below hb4 ((((hq0).below hb1 (hq0).lt).below hb2 ((hq0).below hb1 (hq0).lt).lt).below hb3 (((hq0).below hb1 (hq0).lt).below hb2 ((hq0).below hb1 (hq0).lt).lt).lt).lt).below hb5 (((((hq0).below hb1 (hq0).lt).below hb2 ((hq0).below hb1 (hq0).lt).lt).below hb3 (((hq0).below hb1 (hq0).lt).below hb2 ((hq0).below hb1 (hq0).lt).lt).lt).below hb4 ((((hq0).below hb1 (hq0).lt).below hb2 ((hq0).below hb1 (hq0).lt).lt).below hb3 (((hq0).below hb1 (hq0).lt).below hb2 ((hq0).below hb1 (hq0).lt).lt).lt).lt).lt).below hb6 ((((((hq0).below hb1 (hq0).lt).below hb2 ((hq0).below hb1 (hq0).lt).lt).below hb3 (((hq0).below hb1 (hq0).lt).below hb2 ((hq0).below hb1 (hq0).lt).lt).lt).below hb4 ((((hq0).below hb1 (hq0).lt).below hb2 ((hq0).below hb1 (hq0).lt).lt).below hb3 (((hq0).below hb1 (hq0).lt).below hb2 ((hq0).below hb1 (hq0).lt).lt).lt).lt).below hb5 (((((hq0).below hb1 (hq0).lt).below hb2 ((hq0).below hb1 (hq0).lt).lt).below hb3 (((hq0).below hb1 (hq0).lt).below hb2 ((hq0).below hb1 (hq0).lt).lt).lt).below hb4 ((((hq0).below hb1 (hq0).lt).below hb2 ((hq0).below hb1 (hq0).lt).lt).below hb3 (((hq0).below hb1 (hq0).lt).below hb2 ((hq0).below hb1 (hq0).lt).lt).lt).lt).lt).lt);have Hq1:=lh ((((((hq1).below hb2 (hq1).lt).below hb3 ((hq1).below hb2 (hq1).lt).lt).below hb4 (((hq1).below hb2 (hq1).lt).below hb3 ((hq1).below hb2 (hq1).lt).lt).lt).below hb5 ((((hq1).below hb2 (hq1).lt).below hb3 ((hq1).below hb2 (hq1).lt).lt).below hb4 (((hq1).below hb2 (hq1).lt).below hb3 ((hq1).below hb2 (hq1).lt).lt).lt).lt).below hb6 (((((hq1).below hb2 (hq1).lt).below hb3 ((hq1).below hb2 (hq1).lt).lt).below hb4 (((hq1).below hb2 (hq1).lt).below hb3 ((hq1).below hb2 (hq1).lt).lt).lt).below hb5 ((((hq1).below hb2 (hq1).lt).below hb3 ((hq1).below hb2 (hq1).lt).lt).below hb4 (((hq1).below hb2 (hq1).lt).below hb3 ((hq1).below hb2 (hq1).lt).lt).lt).lt).lt);have Hq2:=lh (((((hq2).below hb3 (hq2).lt).below hb4 ((hq2).below hb3 (hq2).lt).lt).below hb5 (((hq2).below hb3 (hq2).lt).below hb4 ((hq2).below hb3 (hq2).lt).lt).lt).below hb6 ((((hq2).below hb3 (hq2).lt).below hb4 ((hq2).below hb3 (hq2).lt).lt).below hb5 (((hq2).below hb3 (hq2).lt).below hb4 ((hq2).below hb3 (hq2).lt).lt).lt).lt);have Hq3:=lh ((((hq3).below hb4 (hq3).lt).below hb5 ((hq3).below hb4 (hq3).lt).lt).below hb6 (((hq3).below hb4 (hq3).lt).below hb5 ((hq3).below hb4 (hq3).lt).lt).lt);have Hq4:=lh (((hq4).below hb5 (hq4).lt).below hb6 ((hq4).below hb5 (hq4).lt).lt);have Hq5:=lh ((hq5).below hb6 (hq5).lt);have Hq6:=lh (hq6);have HB:=lh (((((((hb0).trans (hb1.mono (by omega))).trans (hb2.mono (by omega))).trans (hb3.mono (by omega))).trans (hb4.mono (by omega))).trans (hb5.mono (by omega))).trans (hb6.mono (by omega)));clear hb0 hq0 hz0 hb1 hq1 hz1 hb2 hq2 hz2 hb3 hq3 hz3 hb4 hq4 hz4 hb5 hq5 hz5 hb6 hq6 hz6
 go_enter Tryz.func47,Tryz.ntmps47
 go_upto_region 8 with fail
 have e1:k0+1=k1:=by rw[hk1,hk0,hx0];simp
 have e2:k1+1=k2:=by rw[hk2,hk1,hx1];simp
 have e3:k2+1=k3:=by rw[hk3,hk2,hx2];simp
 have e4:k3+1=k4:=by rw[hk4,hk3,hx3];simp
 have e5:k4+1=k5:=by rw[hk5,hk4,hx4];simp
 have e6:k5+1=k6:=by rw[hk6,hk5,hx5];simp
 rw[← hx0,← hx1,← hx2,← hx3,← hx4,← hx5,← hx6,← hk0,e1,e2,e3,e4,e5,e6];clear hx0 hk0 hx1 hk1 hx2 hk2 hx3 hk3 hx4 hk4 hx5 hk5 hx6 hk6 e1 e2 e3 e4 e5 e6;refine qi5 18 (fun i=>([[],[],[],[],[],[],[],[],[],[],[],[],[],[],[],[],[],[]]:List (List Nat)).getD i []) (EL [Ent.val (.agg #[.string ⟨#[100,101,108,105,118,101,114]⟩,.func (.func 72) #[] #[],.func (.func 73) #[] #[],.func (.func 75) #[] #[]]),Ent.val (.agg #[.string ⟨#[109,111,118,101]⟩,.func (.func 79) #[] #[],.func (.func 80) #[] #[],.func (.func 82) #[] #[]]),Ent.val (.agg #[.string ⟨#[102,101,116,99,104]⟩,.func (.func 143) #[] #[],.func (.func 144) #[] #[],.func (.func 145) #[] #[]]),Ent.val (.agg #[.string ⟨#[97,115,107]⟩,.func (.func 143) #[] #[],.func (.func 144) #[] #[],.func (.func 145) #[] #[]]),Ent.val (.agg #[.string ⟨#[97,108,105,118,101]⟩,.func (.func 146) #[] #[],.func (.func 147) #[] #[],.func (.func 148) #[] #[]]),Ent.val (.agg #[.string ⟨#[100,101,97,100]⟩,.func (.func 84) #[] #[],.func (.func 85) #[] #[],.func (.func 86) #[] #[]]),Ent.val (.agg #[.string ⟨#[108,111,99,97,116,101]⟩,.func (.func 143) #[] #[],.func (.func 144) #[] #[],.func (.func 145) #[] #[]]),Ent.val (.agg #[.string ⟨#[108,111,99,97,116,101,100]⟩,.func (.func 146) #[] #[],.func (.func 147) #[] #[],.func (.func 148) #[] #[]]),Ent.val (.agg #[.string ⟨#[113,117,101,114,121]⟩,.func (.func 87) #[] #[],.func (.func 88) #[] #[],.func (.func 90) #[] #[]]),Ent.val (.agg #[.string ⟨#[97,110,115,119,101,114]⟩,.func (.func 92) #[] #[],.func (.func 93) #[] #[],.func (.func 95) #[] #[]]),Ent.val (.agg #[.string ⟨#[99,111,110,102,105,114,109]⟩,.func (.func 96) #[] #[],.func (.func 97) #[] #[],.func (.func 99) #[] #[]]),Ent.val (.agg #[.string ⟨#[97,103,114,101,101]⟩,.func (.func 149) #[] #[],.func (.func 89) #[] #[],.func (.func 150) #[] #[]]),Ent.val (.agg #[.string ⟨#[114,101,102,117,115,101]⟩,.func (.func 149) #[] #[],.func (.func 89) #[] #[],.func (.func 150) #[] #[]]),Ent.val (.agg #[.string ⟨#[99,111,109,109,105,116]⟩,.func (.func 149) #[] #[],.func (.func 89) #[] #[],.func (.func 150) #[] #[]]),Ent.val (.agg #[.string ⟨#[97,98,111,114,116]⟩,.func (.func 149) #[] #[],.func (.func 89) #[] #[],.func (.func 150) #[] #[]]),Ent.val (.agg #[.string ⟨#[108,101,97,118,105,110,103]⟩,.func (.func 151) #[] #[],.func (.func 152) #[] #[],.func (.func 153) #[] #[]]),Ent.val (.agg #[.string ⟨#[103,111,111,100,98,121,101]⟩,.func (.func 151) #[] #[],.func (.func 152) #[] #[],.func (.func 153) #[] #[]]),Ent.val (.agg #[.string ⟨#[114,111,111,116]⟩,.func (.func 100) #[] #[],.func (.func 101) #[] #[],.func (.func 104) #[] #[]])]) (by kernel_rfl) (by kernel_rfl) (by kernel_rfl) (by kernel_rfl) (by rfl) ?_ ?_
 ·intro i hi o ho vs w1 hb1 hgr;rcases (show i=0 ∨ i=1 ∨ i=2 ∨ i=3 ∨ i=4 ∨ i=5 ∨ i=6 ∨ i=7 ∨ i=8 ∨ i=9 ∨ i=10 ∨ i=11 ∨ i=12 ∨ i=13 ∨ i=14 ∨ i=15 ∨ i=16 ∨ i=17 by omega) with rfl | rfl | rfl | rfl | rfl | rfl | rfl | rfl | rfl | rfl | rfl | rfl | rfl | rfl | rfl | rfl | rfl | rfl <;> cases ho
  ·clear hgr;change Made _ (qf6 _ _ _) (Sem.run _ (execOp (Act.eval (frm _ _ _ [])) _) _);simp only[frm];have hbk:=Hq0.o.below hb1 Hq0.o.lt;have c0:cl w1 k0 0 (.string ⟨#[100,101,108,105,118,101,114]⟩):=hbk.cell 0;have c1:cl w1 k0 1 (.func (.func 72) #[] #[]):=hbk.cell 1;have c2:cl w1 k0 2 (.func (.func 73) #[] #[]):=hbk.cell 2;have c3:cl w1 k0 3 (.func (.func 75) #[] #[]):=hbk.cell 3;clear hbk;go_simp;exact qb5 rfl
  ·clear hgr;change Made _ (qf6 _ _ _) (Sem.run _ (execOp (Act.eval (frm _ _ _ [])) _) _);simp only[frm];have hbk:=Hq1.o.below hb1 Hq1.o.lt;have c0:cl w1 k1 0 (.string ⟨#[109,111,118,101]⟩):=hbk.cell 0;have c1:cl w1 k1 1 (.func (.func 79) #[] #[]):=hbk.cell 1;have c2:cl w1 k1 2 (.func (.func 80) #[] #[]):=hbk.cell 2;have c3:cl w1 k1 3 (.func (.func 82) #[] #[]):=hbk.cell 3;clear hbk;go_simp;exact qb5 rfl
  ·clear hgr;change Made _ (qf6 _ _ _) (Sem.run _ (execOp (Act.eval (frm _ _ _ [])) _) _);simp only[frm];have cM:=qp5 w1 ⟨#[102,101,116,99,104]⟩;go_simp;exact qc3 cM
  ·clear hgr;change Made _ (qf6 _ _ _) (Sem.run _ (execOp (Act.eval (frm _ _ _ [])) _) _);simp only[frm];have cM:=qp5 w1 ⟨#[97,115,107]⟩;go_simp;exact qc3 cM
  ·clear hgr;change Made _ (qf6 _ _ _) (Sem.run _ (execOp (Act.eval (frm _ _ _ [])) _) _);simp only[frm];have cM:=qr8 w1 ⟨#[97,108,105,118,101]⟩;go_simp;exact qc3 cM
  ·clear hgr;change Made _ (qf6 _ _ _) (Sem.run _ (execOp (Act.eval (frm _ _ _ [])) _) _);simp only[frm];have hbk:=Hq2.o.below hb1 Hq2.o.lt;have c0:cl w1 k2 0 (.string ⟨#[100,101,97,100]⟩):=hbk.cell 0;have c1:cl w1 k2 1 (.func (.func 84) #[] #[]):=hbk.cell 1;have c2:cl w1 k2 2 (.func (.func 85) #[] #[]):=hbk.cell 2;have c3:cl w1 k2 3 (.func (.func 86) #[] #[]):=hbk.cell 3;clear hbk;go_simp;exact qb5 rfl
  ·clear hgr;change Made _ (qf6 _ _ _) (Sem.run _ (execOp (Act.eval (frm _ _ _ [])) _) _);simp only[frm];have cM:=qp5 w1 ⟨#[108,111,99,97,116,101]⟩;go_simp;exact qc3 cM
  ·clear hgr;change Made _ (qf6 _ _ _) (Sem.run _ (execOp (Act.eval (frm _ _ _ [])) _) _);simp only[frm];have cM:=qr8 w1 ⟨#[108,111,99,97,116,101,100]⟩;go_simp;exact qc3 cM
  ·clear hgr;change Made _ (qf6 _ _ _) (Sem.run _ (execOp (Act.eval (frm _ _ _ [])) _) _);simp only[frm];have hbk:=Hq3.o.below hb1 Hq3.o.lt;have c0:cl w1 k3 0 (.string ⟨#[113,117,101,114,121]⟩):=hbk.cell 0;have c1:cl w1 k3 1 (.func (.func 87) #[] #[]):=hbk.cell 1;have c2:cl w1 k3 2 (.func (.func 88) #[] #[]):=hbk.cell 2;have c3:cl w1 k3 3 (.func (.func 90) #[] #[]):=hbk.cell 3;clear hbk;go_simp;exact qb5 rfl
  ·clear hgr;change Made _ (qf6 _ _ _) (Sem.run _ (execOp (Act.eval (frm _ _ _ [])) _) _);simp only[frm];have hbk:=Hq4.o.below hb1 Hq4.o.lt;have c0:cl w1 k4 0 (.string ⟨#[97,110,115,119,101,114]⟩):=hbk.cell 0;have c1:cl w1 k4 1 (.func (.func 92) #[] #[]):=hbk.cell 1;have c2:cl w1 k4 2 (.func (.func 93) #[] #[]):=hbk.cell 2;have c3:cl w1 k4 3 (.func (.func 95) #[] #[]):=hbk.cell 3;clear hbk;go_simp;exact qb5 rfl
  ·clear hgr;change Made _ (qf6 _ _ _) (Sem.run _ (execOp (Act.eval (frm _ _ _ [])) _) _);simp only[frm];have hbk:=Hq5.o.below hb1 Hq5.o.lt;have c0:cl w1 k5 0 (.string ⟨#[99,111,110,102,105,114,109]⟩):=hbk.cell 0;have c1:cl w1 k5 1 (.func (.func 96) #[] #[]):=hbk.cell 1;have c2:cl w1 k5 2 (.func (.func 97) #[] #[]):=hbk.cell 2;have c3:cl w1 k5 3 (.func (.func 99) #[] #[]):=hbk.cell 3;clear hbk;go_simp;exact qb5 rfl
  ·clear hgr;change Made _ (qf6 _ _ _) (Sem.run _ (execOp (Act.eval (frm _ _ _ [])) _) _);simp only[frm];have cM:=qk4 w1 ⟨#[97,103,114,101,101]⟩;go_simp;exact qc3 cM
  ·clear hgr;change Made _ (qf6 _ _ _) (Sem.run _ (execOp (Act.eval (frm _ _ _ [])) _) _);simp only[frm];have cM:=qk4 w1 ⟨#[114,101,102,117,115,101]⟩;go_simp;exact qc3 cM
  ·clear hgr;change Made _ (qf6 _ _ _) (Sem.run _ (execOp (Act.eval (frm _ _ _ [])) _) _);simp only[frm];have cM:=qk4 w1 ⟨#[99,111,109,109,105,116]⟩;go_simp;exact qc3 cM
  ·clear hgr;change Made _ (qf6 _ _ _) (Sem.run _ (execOp (Act.eval (frm _ _ _ [])) _) _);simp only[frm];have cM:=qk4 w1 ⟨#[97,98,111,114,116]⟩;go_simp;exact qc3 cM
  ·clear hgr;change Made _ (qf6 _ _ _) (Sem.run _ (execOp (Act.eval (frm _ _ _ [])) _) _);simp only[frm];have cM:=bare_any w1 ⟨#[108,101,97,118,105,110,103]⟩;go_simp;exact qc3 cM
  ·clear hgr;change Made _ (qf6 _ _ _) (Sem.run _ (execOp (Act.eval (frm _ _ _ [])) _) _);simp only[frm];have cM:=bare_any w1 ⟨#[103,111,111,100,98,121,101]⟩;go_simp;exact qc3 cM
  ·clear hgr;change Made _ (qf6 _ _ _) (Sem.run _ (execOp (Act.eval (frm _ _ _ [])) _) _);simp only[frm];have hbk:=Hq6.o.below hb1 Hq6.o.lt;have c0:cl w1 k6 0 (.string ⟨#[114,111,111,116]⟩):=hbk.cell 0;have c1:cl w1 k6 1 (.func (.func 100) #[] #[]):=hbk.cell 1;have c2:cl w1 k6 2 (.func (.func 101) #[] #[]):=hbk.cell 2;have c3:cl w1 k6 3 (.func (.func 104) #[] #[]):=hbk.cell 3;clear hbk;go_simp;exact qb5 rfl
 intro vs w1 hb1 hall hap;have h0:vs 0=_:=(hall 0 (by omega)).1;have h1:vs 1=_:=(hall 1 (by omega)).1;have h2:vs 2=_:=(hall 2 (by omega)).1;have h3:vs 3=_:=(hall 3 (by omega)).1;have h4:vs 4=_:=(hall 4 (by omega)).1;have h5:vs 5=_:=(hall 5 (by omega)).1;have h6:vs 6=_:=(hall 6 (by omega)).1;have h7:vs 7=_:=(hall 7 (by omega)).1;have h8:vs 8=_:=(hall 8 (by omega)).1;have h9:vs 9=_:=(hall 9 (by omega)).1;have h10:vs 10=_:=(hall 10 (by omega)).1;have h11:vs 11=_:=(hall 11 (by omega)).1;have h12:vs 12=_:=(hall 12 (by omega)).1;have h13:vs 13=_:=(hall 13 (by omega)).1;have h14:vs 14=_:=(hall 14 (by omega)).1;have h15:vs 15=_:=(hall 15 (by omega)).1;have h16:vs 16=_:=(hall 16 (by omega)).1;have h17:vs 17=_:=(hall 17 (by omega)).1;clear hall hap;change wpList _ _ _ [_,_] (Act.put (Act.put (Act.put (Act.put (Act.put (Act.put (Act.put (Act.put (Act.put (Act.put (Act.put (Act.put (Act.put (Act.put (Act.put (Act.put (Act.put (Act.put (frm _ _ _ []) (some 32) (vs 17)) (some 31) (vs 16)) (some 30) (vs 15)) (some 29) (vs 14)) (some 28) (vs 13)) (some 27) (vs 12)) (some 26) (vs 11)) (some 25) (vs 10)) (some 24) (vs 9)) (some 23) (vs 8)) (some 22) (vs 7)) (some 21) (vs 6)) (some 20) (vs 5)) (some 19) (vs 4)) (some 18) (vs 3)) (some 17) (vs 2)) (some 16) (vs 1)) (some 15) (vs 0)) _;simp only[frm,h0,h1,h2,h3,h4,h5,h6,h7,h8,h9,h10,h11,h12,h13,h14,h15,h16,h17]
 go_wp2_with fail
 go_ret;have hb2:=HB.o.trans (hb1.mono HB.o.size);exact⟨_,rfl,hb2.trans ((qa2 _ _).mono hb2.size),Bk.new _ _ _⟩
def kS (k:Nat):ByteArray:=([⟨#[100,101,108,105,118,101,114]⟩,⟨#[109,111,118,101]⟩,⟨#[102,101,116,99,104]⟩,⟨#[97,115,107]⟩,⟨#[97,108,105,118,101]⟩,⟨#[100,101,97,100]⟩,⟨#[108,111,99,97,116,101]⟩,⟨#[108,111,99,97,116,101,100]⟩,⟨#[113,117,101,114,121]⟩,⟨#[97,110,115,119,101,114]⟩,⟨#[99,111,110,102,105,114,109]⟩,⟨#[97,103,114,101,101]⟩,⟨#[114,101,102,117,115,101]⟩,⟨#[99,111,109,109,105,116]⟩,⟨#[97,98,111,114,116]⟩,⟨#[108,101,97,118,105,110,103]⟩,⟨#[103,111,111,100,98,121,101]⟩,⟨#[114,111,111,116]⟩]:List ByteArray).getD k ⟨#[]⟩
def kA (k:Nat):Nat:=([72,79,143,143,146,84,143,146,87,92,96,149,149,149,149,151,151,100]:List Nat).getD k 0
def kB (k:Nat):Nat:=([73,80,144,144,147,85,144,147,88,93,97,89,89,89,89,152,152,101]:List Nat).getD k 0
def kC (k:Nat):Nat:=([75,82,145,145,148,86,145,148,90,95,99,150,150,150,150,153,153,104]:List Nat).getD k 0
def kV (k:Nat):Value:=.agg #[.string (kS k),.func (.func (kA k)) #[] #[],.func (.func (kB k)) #[] #[],.func (.func (kC k)) #[] #[]]
theorem ktab_get {k:Nat} (h:k < 18):ktab.toArray[k*4]?=some (.string (kS k))∧ktab.toArray[k*4+1]?=some (.func (.func (kA k)) #[] #[])∧ktab.toArray[k*4+2]?=some (.func (.func (kB k)) #[] #[])∧ktab.toArray[k*4+3]?=some (.func (.func (kC k)) #[] #[]):=by
 rcases (show k=0 ∨ k=1 ∨ k=2 ∨ k=3 ∨ k=4 ∨ k=5 ∨ k=6 ∨ k=7 ∨ k=8 ∨ k=9 ∨ k=10 ∨ k=11 ∨ k=12 ∨ k=13 ∨ k=14 ∨ k=15 ∨ k=16 ∨ k=17 by omega) with rfl | rfl | rfl | rfl | rfl | rfl | rfl | rfl | rfl | rfl | rfl | rfl | rfl | rfl | rfl | rfl | rfl | rfl <;> exact⟨rfl,rfl,rfl,rfl⟩
theorem find_in (w:World) {k:Nat} (hk:k < 18):Calls Tryz.prog 26 #[iv k] w (RetB (.tuple #[kV k,.bool true]) w):=by
 obtain⟨W,hW⟩:∃ W,W=w.alloc (.cells #[.string ⟨#[]⟩,.nilFunc,.nilFunc,.nilFunc] 68):=⟨_,rfl⟩
 obtain⟨g,hg⟩:∃ g,g=w.heap.size:=⟨_,rfl⟩
 have hb0:bw w W:=by rw[hW];exact qa2 _ _
 have hk0:Bk W g 68 #[.string ⟨#[]⟩,.nilFunc,.nilFunc,.nilFunc]:=by rw[hW,hg];exact Bk.new _ _ _
 have HB0:=lh hb0;have HK0:=lh hk0;have HG:=lh hg;have cK:=kinds_any W;clear hb0 hk0
 go_enter Tryz.func26,Tryz.ntmps26
 go_upto_region 1 with fail
 rw[← hW,← hg];clear hW hg
 go_wp2_with fail
 refine cK.mono ?_;rintro e w1 ⟨b,rfl,hb1,hq1⟩;have HB1:=lh (HB0.o.trans (hb1.mono HB0.o.size));have HK1:=lh (HK0.o.below hb1 HK0.o.lt);have a0:cl w1 g 0 (.string ⟨#[]⟩):=HK1.o.cell 0;have a1:cl w1 g 1 (.nilFunc):=HK1.o.cell 1;have a2:cl w1 g 2 (.nilFunc):=HK1.o.cell 2;have a3:cl w1 g 3 (.nilFunc):=HK1.o.cell 3;have e0:∀ j,w1.frozen? ⟨g,j,none⟩=false:=fun j=>HK1.o.free j;obtain⟨t0,t1,t2,t3⟩:=ktab_get hk;have c0:cl w1 b (k*4) (.string (kS k)):=(hq1.cell (k*4)).trans t0;have c1:cl w1 b (k*4+1) (.func (.func (kA k)) #[] #[]):=(hq1.cell (k*4+1)).trans t1;have c2:cl w1 b (k*4+2) (.func (.func (kB k)) #[] #[]):=(hq1.cell (k*4+2)).trans t2;have c3:cl w1 b (k*4+3) (.func (.func (kC k)) #[] #[]):=(hq1.cell (k*4+3)).trans t3;have q0:decide ((k:Int) < 0)=false:=decide_eq_false (by omega);have q1:decide ((k:Int) ≥ 18)=false:=decide_eq_false (by omega);clear hb1 hq1 cK t0 t1 t2 t3
 go_wp2_with fail
 clear a0 a1 a2 a3 c0 c1 c2 c3
 try simp only[Exit.inBlock,Exit.then]
 have hbk:=qv3 HK1.o (.string (kS k)) (.func (.func (kA k)) #[] #[]) (.func (.func (kB k)) #[] #[]) (.func (.func (kC k)) #[] #[]);have r0:=hbk.cell 0;have r1:=hbk.cell 1;have r2:=hbk.cell 2;have r3:=hbk.cell 3;simp only[List.getElem?_toArray,List.getElem?_cons_zero,List.getElem?_cons_succ] at r0 r1 r2 r3;refine bodyPost_ret (v:=.tuple #[.agg #[.string (kS k),.func (.func (kA k)) #[] #[],.func (.func (kB k)) #[] #[],.func (.func (kC k)) #[] #[]],.bool true]) (by simp[results,Tryz.results26,r0,r1,r2,r3,go_sem]) rfl ?_;exact⟨rfl,(qs8 (g:=g) _ _ _ _).toBelow HB1.o HB1.o.size fun k e=>by have:=HG.o;omega⟩
theorem find_out (w:World) {n:Int} (hn:n < 0 ∨ 18≤n):Calls Tryz.prog 26 #[iv n] w (RetB (.tuple #[.agg #[.string ⟨#[]⟩,.nilFunc,.nilFunc,.nilFunc],bf]) w):=by
 obtain⟨W,hW⟩:∃ W,W=w.alloc (.cells #[.string ⟨#[]⟩,.nilFunc,.nilFunc,.nilFunc] 68):=⟨_,rfl⟩
 obtain⟨g,hg⟩:∃ g,g=w.heap.size:=⟨_,rfl⟩
 have hb0:bw w W:=by rw[hW];exact qa2 _ _
 have hk0:Bk W g 68 #[.string ⟨#[]⟩,.nilFunc,.nilFunc,.nilFunc]:=by rw[hW,hg];exact Bk.new _ _ _
 have HB0:=lh hb0;have HK0:=lh hk0;have HG:=lh hg;have cK:=kinds_any W;clear hb0 hk0
 go_enter Tryz.func26,Tryz.ntmps26
 go_upto_region 1 with fail
 rw[← hW,← hg];clear hW hg
 go_wp2_with fail
 refine cK.mono ?_;rintro e w1 ⟨b,rfl,hb1,hq1⟩;have HB1:=lh (HB0.o.trans (hb1.mono HB0.o.size));have HK1:=lh (HK0.o.below hb1 HK0.o.lt);have a0:cl w1 g 0 (.string ⟨#[]⟩):=HK1.o.cell 0;have a1:cl w1 g 1 (.nilFunc):=HK1.o.cell 1;have a2:cl w1 g 2 (.nilFunc):=HK1.o.cell 2;have a3:cl w1 g 3 (.nilFunc):=HK1.o.cell 3;have e0:∀ j,w1.frozen? ⟨g,j,none⟩=false:=fun j=>HK1.o.free j;clear hb1 hq1 cK
 by_cases h0:n < 0
 ·have q0:decide (n < 0)=true:=decide_eq_true h0
  go_wp2_with fail
  clear a0 a1 a2 a3
  try simp only[Exit.inBlock,Exit.then]
  have hbk:=qv3 HK1.o (.string ⟨#[]⟩) (.nilFunc) (.nilFunc) (.nilFunc);have r0:=hbk.cell 0;have r1:=hbk.cell 1;have r2:=hbk.cell 2;have r3:=hbk.cell 3;simp only[List.getElem?_toArray,List.getElem?_cons_zero,List.getElem?_cons_succ] at r0 r1 r2 r3;refine bodyPost_ret (v:=.tuple #[.agg #[.string ⟨#[]⟩,.nilFunc,.nilFunc,.nilFunc],bf]) (by simp[results,Tryz.results26,r0,r1,r2,r3,go_sem]) rfl ?_;exact⟨rfl,(qs8 (g:=g) _ _ _ _).toBelow HB1.o HB1.o.size fun k e=>by have:=HG.o;omega⟩
 ·have q0:decide (n < 0)=false:=decide_eq_false h0;have q1:decide (n ≥ 18)=true:=decide_eq_true (by omega)
  go_wp2_with fail
  clear a0 a1 a2 a3
  try simp only[Exit.inBlock,Exit.then]
  have hbk:=qv3 HK1.o (.string ⟨#[]⟩) (.nilFunc) (.nilFunc) (.nilFunc);have r0:=hbk.cell 0;have r1:=hbk.cell 1;have r2:=hbk.cell 2;have r3:=hbk.cell 3;simp only[List.getElem?_toArray,List.getElem?_cons_zero,List.getElem?_cons_succ] at r0 r1 r2 r3;refine bodyPost_ret (v:=.tuple #[.agg #[.string ⟨#[]⟩,.nilFunc,.nilFunc,.nilFunc],bf]) (by simp[results,Tryz.results26,r0,r1,r2,r3,go_sem]) rfl ?_;exact⟨rfl,(qs8 (g:=g) _ _ _ _).toBelow HB1.o HB1.o.size fun k e=>by have:=HG.o;omega⟩
def kname (n:Int):ByteArray:=if 0≤n∧n < 18 then kS n.toNat else ⟨#[]⟩
theorem KindName_any (w:World) (n:Int):Calls Tryz.prog 16 #[iv n] w (RetB (.string (kname n)) w):=by
 obtain⟨S,hS⟩:∃ S,S=kname n:=⟨_,rfl⟩
 rw[← hS];have HS:=lh hS;clear hS
 by_cases hn:0≤n∧n < 18
 ·obtain⟨k,rfl⟩:∃ k:Nat,n=k:=⟨n.toNat,by omega⟩
  have cF:=find_in w (k:=k) (by omega);have HN:=lh hn;clear hn;unfold kV at cF
  go_enter Tryz.func16,Tryz.ntmps16
  go_wp2_with fail
  refine cF.mono ?_;rintro e w1 ⟨rfl,hb1⟩;have HB1:=lh hb1;clear hb1 cF
  go_wp2_with fail
  go_ret;refine⟨congrArg (fun b=>Ending.returned (Value.string b)) ?_,HB1.o.trans ((qa2 _ _).mono HB1.o.size)⟩;rw[HS.o];unfold kname;rw[if_pos HN.o,Int.toNat_natCast]
 ·have cF:=find_out w (n:=n) (by omega);have HN:=lh hn;clear hn
  go_enter Tryz.func16,Tryz.ntmps16
  go_wp2_with fail
  refine cF.mono ?_;rintro e w1 ⟨rfl,hb1⟩;have HB1:=lh hb1;clear hb1 cF
  go_wp2_with fail
  go_ret;refine⟨congrArg (fun b=>Ending.returned (Value.string b)) ?_,HB1.o.trans ((qa2 _ _).mono HB1.o.size)⟩;rw[HS.o];unfold kname;rw[if_neg HN.o]
end
end Go.Proofs.YtmbnlccafcfbeaaGreatDoor
