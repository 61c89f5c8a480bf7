/- Parts of the proof: RcU, RcK. -/
import Derived.Deep.MidRow
import Derived.Test.YtmbnlccafcfbeaaGreatDoorPfA
import Derived.Test.YtmbnlccafcfbeaaGreatDoorPf13
set_option linter.unusedVariables false
set_option linter.unusedSimpArgs false
set_option linter.unusedSectionVars false
set_option maxRecDepth 100000
set_option maxHeartbeats 64000000
namespace Go.Proofs.YtmbnlccafcfbeaaGreatDoor
section
open Go.RowKit
attribute [local go_sem] Oper.semAt_some
theorem Bk.rng {w:World} {g:Nat} {t:TypeId} {M:Array Value} (h:Bk w g t M):w.rangeAt g 0 M.toList:=fun j v hv=>by rw[Nat.zero_add,h.cell j];simpa using hv
def ok4 (x:Ms):Bool:=plV x.ref && (x.ref.kind == 3)
def ok8 (x:Ms):Bool:=trV x && ql1 x.asker
def ok9 (x:Ms):Bool:=trV x && anV x.answer
def ql2 (x:Ms):Bool:=trV x && clV x.claim
def ql4 (x:Ms):Bool:=nmV x.name && plV x.ref && decide (x.ref.kind ≥ 2)
theorem Ok0_any {w:World} (x:Ms) {A1 A2 A3 A4 A5 A6 A7 A8:Option Addr} {c1 c2 c3 c4 c5 c6 c7 c8:Nat} (h1:LsI (qa6 rfC) 26 8 w A1 c1 x.letter.args):Calls Tryz.prog 73 #[.agg (mC x A1 A2 A3 A4 A5 A6 A7 A8 c1 c2 c3 c4 c5 c6 c7 c8)] w (qe7 w (ltV x.letter)):=by
 obtain⟨R,hR⟩:∃ R,R=ltV x.letter:=⟨_,rfl⟩
 rw[← hR];have HR:=lh hR
 obtain⟨W,hW⟩:∃ W,W=w.alloc (.cells (mC x A1 A2 A3 A4 A5 A6 A7 A8 c1 c2 c3 c4 c5 c6 c7 c8) 42):=⟨_,rfl⟩
 obtain⟨g,hg⟩:∃ g,g=w.heap.size:=⟨_,rfl⟩
 have hb0:bw w W:=by rw[hW];exact qa2 _ _
 have hk0:Bk W g 42 (mC x A1 A2 A3 A4 A5 A6 A7 A8 c1 c2 c3 c4 c5 c6 c7 c8):=by rw[hW,hg];exact Bk.new _ _ _
 have Mh10:Hid (LsI (qa6 rfC) 26 8 W A1 c1 x.letter.args):=lh (h1.below (qa1 rfC) (qa0 rfC) hb0);have a12:cl W g 12 (iv x.letter.idm):=hk0.cell 12;have a13:cl W g 13 (iv x.letter.ids):=hk0.cell 13;have a14:cl W g 14 (.string x.letter.meth):=hk0.cell 14;have a15:cl W g 15 (.slice A1 x.letter.args.length c1):=hk0.cell 15;have HK0:=lh hk0;have HB0:=lh hb0;clear hb0 hk0 hR h1
 go_enter Tryz.func73,Tryz.ntmps73
 go_upto_region 1 with fail
 rw[← hW,← hg];clear hW hg;have c0:=Lt_any x.letter Mh10.o
 cases h0:ltV x.letter with
 | true =>
  rw[h0] at c0;have H0:=lh h0;clear h0
  go_wp2_with fail
  refine c0.mono ?_;rintro e w1 ⟨rfl,hb1⟩;have HB1:=lh (HB0.o.trans (hb1.mono HB0.o.size));clear hb1 c0 a12 a13 a14 a15
  go_wp2_with fail
  go_ret;refine⟨cgb ?_,HB1.o⟩;rw[HR.o]
  simp[id,H0.o]
 | false =>
  rw[h0] at c0;have H0:=lh h0;clear h0
  go_wp2_with fail
  refine c0.mono ?_;rintro e w1 ⟨rfl,hb1⟩;have HB1:=lh (HB0.o.trans (hb1.mono HB0.o.size));clear hb1 c0 a12 a13 a14 a15
  go_wp2_with fail
  go_ret;refine⟨cgb ?_,HB1.o⟩;rw[HR.o]
  simp[id,H0.o]
theorem Ok1_any {w:World} (x:Ms) {A1 A2 A3 A4 A5 A6 A7 A8:Option Addr} {c1 c2 c3 c4 c5 c6 c7 c8:Nat} (h2:LsI (qa6 rfC) 26 8 w A2 c2 x.parcel.fields) (h3:LsI (LtR) 29 4 w A3 c3 x.parcel.mail) (h4:LsI (qa6 waC) 65 12 w A4 c4 x.parcel.watches):Calls Tryz.prog 80 #[.agg (mC x A1 A2 A3 A4 A5 A6 A7 A8 c1 c2 c3 c4 c5 c6 c7 c8)] w (qe7 w (pcV x.parcel)):=by
 obtain⟨R,hR⟩:∃ R,R=pcV x.parcel:=⟨_,rfl⟩
 rw[← hR];have HR:=lh hR
 obtain⟨W,hW⟩:∃ W,W=w.alloc (.cells (mC x A1 A2 A3 A4 A5 A6 A7 A8 c1 c2 c3 c4 c5 c6 c7 c8) 42):=⟨_,rfl⟩
 obtain⟨g,hg⟩:∃ g,g=w.heap.size:=⟨_,rfl⟩
 have hb0:bw w W:=by rw[hW];exact qa2 _ _
 have hk0:Bk W g 42 (mC x A1 A2 A3 A4 A5 A6 A7 A8 c1 c2 c3 c4 c5 c6 c7 c8):=by rw[hW,hg];exact Bk.new _ _ _
 have Mh20:Hid (LsI (qa6 rfC) 26 8 W A2 c2 x.parcel.fields):=lh (h2.below (qa1 rfC) (qa0 rfC) hb0);have Mh30:Hid (LsI (LtR) 29 4 W A3 c3 x.parcel.mail):=lh (h3.below (qg1) (ltR_rk) hb0);have Mh40:Hid (LsI (qa6 waC) 65 12 W A4 c4 x.parcel.watches):=lh (h4.below (qa1 waC) (qa0 waC) hb0);have a16:cl W g 16 (uv x.parcel.number):=hk0.cell 16;have a17:cl W g 17 (iv x.parcel.idm):=hk0.cell 17;have a18:cl W g 18 (iv x.parcel.ids):=hk0.cell 18;have a19:cl W g 19 (iv x.parcel.kind):=hk0.cell 19;have a20:cl W g 20 (iv x.parcel.cls):=hk0.cell 20;have a21:cl W g 21 (.slice A2 x.parcel.fields.length c2):=hk0.cell 21;have a22:cl W g 22 (.slice A3 x.parcel.mail.length c3):=hk0.cell 22;have a23:cl W g 23 (.slice A4 x.parcel.watches.length c4):=hk0.cell 23;have HK0:=lh hk0;have HB0:=lh hb0;clear hb0 hk0 hR h2 h3 h4
 go_enter Tryz.func80,Tryz.ntmps80
 go_upto_region 1 with fail
 rw[← hW,← hg];clear hW hg;have c0:=Pc_any x.parcel Mh20.o Mh30.o Mh40.o
 cases h0:pcV x.parcel with
 | true =>
  rw[h0] at c0;have H0:=lh h0;clear h0
  go_wp2_with fail
  refine c0.mono ?_;rintro e w1 ⟨rfl,hb1⟩;have HB1:=lh (HB0.o.trans (hb1.mono HB0.o.size));clear hb1 c0 a16 a17 a18 a19 a20 a21 a22 a23
  go_wp2_with fail
  go_ret;refine⟨cgb ?_,HB1.o⟩;rw[HR.o]
  simp[id,H0.o]
 | false =>
  rw[h0] at c0;have H0:=lh h0;clear h0
  go_wp2_with fail
  refine c0.mono ?_;rintro e w1 ⟨rfl,hb1⟩;have HB1:=lh (HB0.o.trans (hb1.mono HB0.o.size));clear hb1 c0 a16 a17 a18 a19 a20 a21 a22 a23
  go_wp2_with fail
  go_ret;refine⟨cgb ?_,HB1.o⟩;rw[HR.o]
  simp[id,H0.o]
theorem OkA_any {w:World} (x:Ms) {A1 A2 A3 A4 A5 A6 A7 A8:Option Addr} {c1 c2 c3 c4 c5 c6 c7 c8:Nat} :Calls Tryz.prog 144 #[.agg (mC x A1 A2 A3 A4 A5 A6 A7 A8 c1 c2 c3 c4 c5 c6 c7 c8)] w (qe7 w (ql1 x.asker)):=by
 obtain⟨R,hR⟩:∃ R,R=ql1 x.asker:=⟨_,rfl⟩
 rw[← hR];have HR:=lh hR
 obtain⟨W,hW⟩:∃ W,W=w.alloc (.cells (mC x A1 A2 A3 A4 A5 A6 A7 A8 c1 c2 c3 c4 c5 c6 c7 c8) 42):=⟨_,rfl⟩
 obtain⟨g,hg⟩:∃ g,g=w.heap.size:=⟨_,rfl⟩
 have hb0:bw w W:=by rw[hW];exact qa2 _ _
 have hk0:Bk W g 42 (mC x A1 A2 A3 A4 A5 A6 A7 A8 c1 c2 c3 c4 c5 c6 c7 c8):=by rw[hW,hg];exact Bk.new _ _ _
 have a2:cl W g 2 (iv x.asker):=hk0.cell 2;have HK0:=lh hk0;have HB0:=lh hb0;clear hb0 hk0 hR
 go_enter Tryz.func144,Tryz.ntmps144
 go_upto_region 1 with fail
 rw[← hW,← hg];clear hW hg;have c0:=qi2 W x.asker
 cases h0:ql1 x.asker with
 | true =>
  rw[h0] at c0;have H0:=lh h0;clear h0
  go_wp2_with fail
  refine c0.mono ?_;rintro e w1 ⟨rfl,hb1⟩;have HB1:=lh (HB0.o.trans (hb1.mono HB0.o.size));clear hb1 c0 a2
  go_wp2_with fail
  go_ret;refine⟨cgb ?_,HB1.o⟩;rw[HR.o]
  simp[id,H0.o]
 | false =>
  rw[h0] at c0;have H0:=lh h0;clear h0
  go_wp2_with fail
  refine c0.mono ?_;rintro e w1 ⟨rfl,hb1⟩;have HB1:=lh (HB0.o.trans (hb1.mono HB0.o.size));clear hb1 c0 a2
  go_wp2_with fail
  go_ret;refine⟨cgb ?_,HB1.o⟩;rw[HR.o]
  simp[id,H0.o]
theorem Ok4_any {w:World} (x:Ms) {A1 A2 A3 A4 A5 A6 A7 A8:Option Addr} {c1 c2 c3 c4 c5 c6 c7 c8:Nat} :Calls Tryz.prog 147 #[.agg (mC x A1 A2 A3 A4 A5 A6 A7 A8 c1 c2 c3 c4 c5 c6 c7 c8)] w (qe7 w (ok4 x)):=by
 obtain⟨R,hR⟩:∃ R,R=ok4 x:=⟨_,rfl⟩
 rw[← hR];have HR:=lh hR
 obtain⟨W,hW⟩:∃ W,W=w.alloc (.cells (mC x A1 A2 A3 A4 A5 A6 A7 A8 c1 c2 c3 c4 c5 c6 c7 c8) 42):=⟨_,rfl⟩
 obtain⟨g,hg⟩:∃ g,g=w.heap.size:=⟨_,rfl⟩
 have hb0:bw w W:=by rw[hW];exact qa2 _ _
 have hk0:Bk W g 42 (mC x A1 A2 A3 A4 A5 A6 A7 A8 c1 c2 c3 c4 c5 c6 c7 c8):=by rw[hW,hg];exact Bk.new _ _ _
 have a4:cl W g 4 (iv x.ref.kind):=hk0.cell 4;have a5:cl W g 5 (iv x.ref.int):=hk0.cell 5;have a6:cl W g 6 (iv x.ref.owner):=hk0.cell 6;have a7:cl W g 7 (uv x.ref.number):=hk0.cell 7;have a8:cl W g 8 (iv x.ref.idm):=hk0.cell 8;have a9:cl W g 9 (iv x.ref.ids):=hk0.cell 9;have a10:cl W g 10 (iv x.ref.cls):=hk0.cell 10;have a11:cl W g 11 (.bool x.ref.weak):=hk0.cell 11;have HK0:=lh hk0;have HB0:=lh hb0;clear hb0 hk0 hR
 go_enter Tryz.func147,Tryz.ntmps147
 go_upto_region 1 with fail
 rw[← hW,← hg];clear hW hg;have c0:=Pl_any (w:=W) x.ref
 cases h0:plV x.ref with
 | true =>
  rw[h0] at c0;have H0:=lh h0;clear h0
  go_wp2_with fail
  refine c0.mono ?_;rintro e w1 ⟨rfl,hb1⟩;have HB1:=lh (HB0.o.trans (hb1.mono HB0.o.size));have hk1:=HK0.o.below hb1 HK0.o.lt;have fb4:cl w1 g 4 (iv x.ref.kind):=hk1.cell 4;have fb5:cl w1 g 5 (iv x.ref.int):=hk1.cell 5;have fb6:cl w1 g 6 (iv x.ref.owner):=hk1.cell 6;have fb7:cl w1 g 7 (uv x.ref.number):=hk1.cell 7;have fb8:cl w1 g 8 (iv x.ref.idm):=hk1.cell 8;have fb9:cl w1 g 9 (iv x.ref.ids):=hk1.cell 9;have fb10:cl w1 g 10 (iv x.ref.cls):=hk1.cell 10;have fb11:cl w1 g 11 (.bool x.ref.weak):=hk1.cell 11;have HK1:=lh hk1;clear hb1 hk1 c0 a4 a5 a6 a7 a8 a9 a10 a11
  cases h1:x.ref.kind == 3 with
  | true =>
   have q1:(x.ref.kind == 3)=true:=h1;have H1:=lh h1;clear h1
   go_wp2_with fail
   go_ret;refine⟨cgb ?_,HB1.o⟩;rw[HR.o]
   simp[ok4,H0.o,H1.o]
  | false =>
   have q1:(x.ref.kind == 3)=false:=h1;have H1:=lh h1;clear h1
   go_wp2_with fail
   go_ret;refine⟨cgb ?_,HB1.o⟩;rw[HR.o]
   simp[ok4,H0.o,H1.o]
 | false =>
  rw[h0] at c0;have H0:=lh h0;clear h0
  go_wp2_with fail
  refine c0.mono ?_;rintro e w1 ⟨rfl,hb1⟩;have HB1:=lh (HB0.o.trans (hb1.mono HB0.o.size));clear hb1 c0 a4 a5 a6 a7 a8 a9 a10 a11
  go_wp2_with fail
  go_ret;refine⟨cgb ?_,HB1.o⟩;rw[HR.o]
  simp[ok4,H0.o]
theorem Ok8_any {w:World} (x:Ms) {A1 A2 A3 A4 A5 A6 A7 A8:Option Addr} {c1 c2 c3 c4 c5 c6 c7 c8:Nat} {M:Array Value} (hM:M=(mC x A1 A2 A3 A4 A5 A6 A7 A8 c1 c2 c3 c4 c5 c6 c7 c8)) :Calls Tryz.prog 88 #[.agg M] w (qe7 w (ok8 x)):=by
 have HM:=lh hM;clear hM
 obtain⟨R,hR⟩:∃ R,R=ok8 x:=⟨_,rfl⟩
 rw[← hR];have HR:=lh hR
 obtain⟨W,hW⟩:∃ W,W=w.alloc (.cells M 42):=⟨_,rfl⟩
 obtain⟨g,hg⟩:∃ g,g=w.heap.size:=⟨_,rfl⟩
 have hb0:bw w W:=by rw[hW];exact qa2 _ _
 have hk0:Bk W g 42 M:=by rw[hW,hg];exact Bk.new _ _ _
 have a2:cl W g 2 (iv x.asker):=(hk0.cell 2).trans (by rw[HM.o];rfl);have HK0:=lh hk0;have HB0:=lh hb0;clear hb0 hk0 hR
 go_enter Tryz.func88,Tryz.ntmps88
 go_upto_region 1 with fail
 rw[← hW,← hg];clear hW hg;refine wp_region_list ?_;have hsz:M.toList.length=39:=by rw[Array.length_toList,HM.o];rfl
 refine wpList_load_mid rfl _ _ rfl g 0 rfl M.toList _ HK0.o.rng rfl rfl (by rw[hsz];rfl) ?_;simp only[Array.toArray_toList];clear hsz
 have c0:=(show Calls Tryz.prog 89 #[.agg M] W (qe7 W (trV x)) by rw[HM.o];exact qv7 x)
 cases h0:trV x with
 | true =>
  rw[h0] at c0;have H0:=lh h0;clear h0
  go_wp2_with fail
  refine c0.mono ?_;rintro e w1 ⟨rfl,hb1⟩;have HB1:=lh (HB0.o.trans (hb1.mono HB0.o.size));have hk1:=HK0.o.below hb1 HK0.o.lt;have fb2:cl w1 g 2 (iv x.asker):=(hk1.cell 2).trans (by rw[HM.o];rfl);have HK1:=lh hk1;clear hb1 hk1 c0 a2;have c1:=qi2 w1 x.asker
  cases h1:ql1 x.asker with
  | true =>
   rw[h1] at c1;have H1:=lh h1;clear h1
   go_wp2_with fail
   refine c1.mono ?_;rintro e w2 ⟨rfl,hb2⟩;have HB2:=lh (HB1.o.trans (hb2.mono HB1.o.size));clear hb2 c1 fb2
   go_wp2_with fail
   go_ret;refine⟨cgb ?_,HB2.o⟩;rw[HR.o]
   simp[ok8,H0.o,H1.o]
  | false =>
   rw[h1] at c1;have H1:=lh h1;clear h1
   go_wp2_with fail
   refine c1.mono ?_;rintro e w2 ⟨rfl,hb2⟩;have HB2:=lh (HB1.o.trans (hb2.mono HB1.o.size));clear hb2 c1 fb2
   go_wp2_with fail
   go_ret;refine⟨cgb ?_,HB2.o⟩;rw[HR.o]
   simp[ok8,H0.o,H1.o]
 | false =>
  rw[h0] at c0;have H0:=lh h0;clear h0
  go_wp2_with fail
  refine c0.mono ?_;rintro e w1 ⟨rfl,hb1⟩;have HB1:=lh (HB0.o.trans (hb1.mono HB0.o.size));clear hb1 c0 a2
  go_wp2_with fail
  go_ret;refine⟨cgb ?_,HB1.o⟩;rw[HR.o]
  simp[ok8,H0.o]
theorem Ok9_any {w:World} (x:Ms) {A1 A2 A3 A4 A5 A6 A7 A8:Option Addr} {c1 c2 c3 c4 c5 c6 c7 c8:Nat} {M:Array Value} (hM:M=(mC x A1 A2 A3 A4 A5 A6 A7 A8 c1 c2 c3 c4 c5 c6 c7 c8)) (h5:LsI (qa6 inC) 99 3 w A5 c5 x.answer.inset):Calls Tryz.prog 93 #[.agg M] w (qe7 w (ok9 x)):=by
 have HM:=lh hM;clear hM
 obtain⟨R,hR⟩:∃ R,R=ok9 x:=⟨_,rfl⟩
 rw[← hR];have HR:=lh hR
 obtain⟨W,hW⟩:∃ W,W=w.alloc (.cells M 42):=⟨_,rfl⟩
 obtain⟨g,hg⟩:∃ g,g=w.heap.size:=⟨_,rfl⟩
 have hb0:bw w W:=by rw[hW];exact qa2 _ _
 have hk0:Bk W g 42 M:=by rw[hW,hg];exact Bk.new _ _ _
 have Mh50:Hid (LsI (qa6 inC) 99 3 W A5 c5 x.answer.inset):=lh (h5.below (qa1 inC) (qa0 inC) hb0);have a26:cl W g 26 (iv x.answer.machine):=(hk0.cell 26).trans (by rw[HM.o];rfl);have a27:cl W g 27 (iv x.answer.owner):=(hk0.cell 27).trans (by rw[HM.o];rfl);have a28:cl W g 28 (uv x.answer.number):=(hk0.cell 28).trans (by rw[HM.o];rfl);have a29:cl W g 29 (iv x.answer.epoch):=(hk0.cell 29).trans (by rw[HM.o];rfl);have a30:cl W g 30 (.bool x.answer.known):=(hk0.cell 30).trans (by rw[HM.o];rfl);have a31:cl W g 31 (.bool x.answer.rooted):=(hk0.cell 31).trans (by rw[HM.o];rfl);have a32:cl W g 32 (iv x.answer.last):=(hk0.cell 32).trans (by rw[HM.o];rfl);have a33:cl W g 33 (.slice A5 x.answer.inset.length c5):=(hk0.cell 33).trans (by rw[HM.o];rfl);have HK0:=lh hk0;have HB0:=lh hb0;clear hb0 hk0 hR h5
 go_enter Tryz.func93,Tryz.ntmps93
 go_upto_region 1 with fail
 rw[← hW,← hg];clear hW hg;refine wp_region_list ?_;have hsz:M.toList.length=39:=by rw[Array.length_toList,HM.o];rfl
 refine wpList_load_mid rfl _ _ rfl g 0 rfl M.toList _ HK0.o.rng rfl rfl (by rw[hsz];rfl) ?_;simp only[Array.toArray_toList];clear hsz
 have c0:=(show Calls Tryz.prog 89 #[.agg M] W (qe7 W (trV x)) by rw[HM.o];exact qv7 x)
 cases h0:trV x with
 | true =>
  rw[h0] at c0;have H0:=lh h0;clear h0
  go_wp2_with fail
  refine c0.mono ?_;rintro e w1 ⟨rfl,hb1⟩;have HB1:=lh (HB0.o.trans (hb1.mono HB0.o.size));have hk1:=HK0.o.below hb1 HK0.o.lt;have Mh51:Hid (LsI (qa6 inC) 99 3 w1 A5 c5 x.answer.inset):=lh (Mh50.o.below (qa1 inC) (qa0 inC) hb1);have fb26:cl w1 g 26 (iv x.answer.machine):=(hk1.cell 26).trans (by rw[HM.o];rfl);have fb27:cl w1 g 27 (iv x.answer.owner):=(hk1.cell 27).trans (by rw[HM.o];rfl);have fb28:cl w1 g 28 (uv x.answer.number):=(hk1.cell 28).trans (by rw[HM.o];rfl);have fb29:cl w1 g 29 (iv x.answer.epoch):=(hk1.cell 29).trans (by rw[HM.o];rfl);have fb30:cl w1 g 30 (.bool x.answer.known):=(hk1.cell 30).trans (by rw[HM.o];rfl);have fb31:cl w1 g 31 (.bool x.answer.rooted):=(hk1.cell 31).trans (by rw[HM.o];rfl);have fb32:cl w1 g 32 (iv x.answer.last):=(hk1.cell 32).trans (by rw[HM.o];rfl);have fb33:cl w1 g 33 (.slice A5 x.answer.inset.length c5):=(hk1.cell 33).trans (by rw[HM.o];rfl);have HK1:=lh hk1;clear hb1 hk1 c0 a26 a27 a28 a29 a30 a31 a32 a33;have c1:=An_any x.answer Mh51.o
  cases h1:anV x.answer with
  | true =>
   rw[h1] at c1;have H1:=lh h1;clear h1
   go_wp2_with fail
   refine c1.mono ?_;rintro e w2 ⟨rfl,hb2⟩;have HB2:=lh (HB1.o.trans (hb2.mono HB1.o.size));clear hb2 c1 fb26 fb27 fb28 fb29 fb30 fb31 fb32 fb33
   go_wp2_with fail
   go_ret;refine⟨cgb ?_,HB2.o⟩;rw[HR.o]
   simp[ok9,H0.o,H1.o]
  | false =>
   rw[h1] at c1;have H1:=lh h1;clear h1
   go_wp2_with fail
   refine c1.mono ?_;rintro e w2 ⟨rfl,hb2⟩;have HB2:=lh (HB1.o.trans (hb2.mono HB1.o.size));clear hb2 c1 fb26 fb27 fb28 fb29 fb30 fb31 fb32 fb33
   go_wp2_with fail
   go_ret;refine⟨cgb ?_,HB2.o⟩;rw[HR.o]
   simp[ok9,H0.o,H1.o]
 | false =>
  rw[h0] at c0;have H0:=lh h0;clear h0
  go_wp2_with fail
  refine c0.mono ?_;rintro e w1 ⟨rfl,hb1⟩;have HB1:=lh (HB0.o.trans (hb1.mono HB0.o.size));clear hb1 c0 a26 a27 a28 a29 a30 a31 a32 a33
  go_wp2_with fail
  go_ret;refine⟨cgb ?_,HB1.o⟩;rw[HR.o]
  simp[ok9,H0.o]
theorem Ok10_any {w:World} (x:Ms) {A1 A2 A3 A4 A5 A6 A7 A8:Option Addr} {c1 c2 c3 c4 c5 c6 c7 c8:Nat} {M:Array Value} (hM:M=(mC x A1 A2 A3 A4 A5 A6 A7 A8 c1 c2 c3 c4 c5 c6 c7 c8)) (h6:LsI (qa6 ndC) 136 3 w A6 c6 x.claim.stubs) (h7:LsI (qa6 ndC) 136 3 w A7 c7 x.claim.scions) (h8:LsI (qa6 ndC) 136 3 w A8 c8 x.claim.checks):Calls Tryz.prog 97 #[.agg M] w (qe7 w (ql2 x)):=by
 have HM:=lh hM;clear hM
 obtain⟨R,hR⟩:∃ R,R=ql2 x:=⟨_,rfl⟩
 rw[← hR];have HR:=lh hR
 obtain⟨W,hW⟩:∃ W,W=w.alloc (.cells M 42):=⟨_,rfl⟩
 obtain⟨g,hg⟩:∃ g,g=w.heap.size:=⟨_,rfl⟩
 have hb0:bw w W:=by rw[hW];exact qa2 _ _
 have hk0:Bk W g 42 M:=by rw[hW,hg];exact Bk.new _ _ _
 have Mh60:Hid (LsI (qa6 ndC) 136 3 W A6 c6 x.claim.stubs):=lh (h6.below (qa1 ndC) (qa0 ndC) hb0);have Mh70:Hid (LsI (qa6 ndC) 136 3 W A7 c7 x.claim.scions):=lh (h7.below (qa1 ndC) (qa0 ndC) hb0);have Mh80:Hid (LsI (qa6 ndC) 136 3 W A8 c8 x.claim.checks):=lh (h8.below (qa1 ndC) (qa0 ndC) hb0);have a34:cl W g 34 (iv x.claim.machine):=(hk0.cell 34).trans (by rw[HM.o];rfl);have a35:cl W g 35 (iv x.claim.epoch):=(hk0.cell 35).trans (by rw[HM.o];rfl);have a36:cl W g 36 (.slice A6 x.claim.stubs.length c6):=(hk0.cell 36).trans (by rw[HM.o];rfl);have a37:cl W g 37 (.slice A7 x.claim.scions.length c7):=(hk0.cell 37).trans (by rw[HM.o];rfl);have a38:cl W g 38 (.slice A8 x.claim.checks.length c8):=(hk0.cell 38).trans (by rw[HM.o];rfl);have HK0:=lh hk0;have HB0:=lh hb0;clear hb0 hk0 hR h6 h7 h8
 go_enter Tryz.func97,Tryz.ntmps97
 go_upto_region 1 with fail
 rw[← hW,← hg];clear hW hg;refine wp_region_list ?_;have hsz:M.toList.length=39:=by rw[Array.length_toList,HM.o];rfl
 refine wpList_load_mid rfl _ _ rfl g 0 rfl M.toList _ HK0.o.rng rfl rfl (by rw[hsz];rfl) ?_;simp only[Array.toArray_toList];clear hsz
 have c0:=(show Calls Tryz.prog 89 #[.agg M] W (qe7 W (trV x)) by rw[HM.o];exact qv7 x)
 cases h0:trV x with
 | true =>
  rw[h0] at c0;have H0:=lh h0;clear h0
  go_wp2_with fail
  refine c0.mono ?_;rintro e w1 ⟨rfl,hb1⟩;have HB1:=lh (HB0.o.trans (hb1.mono HB0.o.size));have hk1:=HK0.o.below hb1 HK0.o.lt;have Mh61:Hid (LsI (qa6 ndC) 136 3 w1 A6 c6 x.claim.stubs):=lh (Mh60.o.below (qa1 ndC) (qa0 ndC) hb1);have Mh71:Hid (LsI (qa6 ndC) 136 3 w1 A7 c7 x.claim.scions):=lh (Mh70.o.below (qa1 ndC) (qa0 ndC) hb1);have Mh81:Hid (LsI (qa6 ndC) 136 3 w1 A8 c8 x.claim.checks):=lh (Mh80.o.below (qa1 ndC) (qa0 ndC) hb1);have fb34:cl w1 g 34 (iv x.claim.machine):=(hk1.cell 34).trans (by rw[HM.o];rfl);have fb35:cl w1 g 35 (iv x.claim.epoch):=(hk1.cell 35).trans (by rw[HM.o];rfl);have fb36:cl w1 g 36 (.slice A6 x.claim.stubs.length c6):=(hk1.cell 36).trans (by rw[HM.o];rfl);have fb37:cl w1 g 37 (.slice A7 x.claim.scions.length c7):=(hk1.cell 37).trans (by rw[HM.o];rfl);have fb38:cl w1 g 38 (.slice A8 x.claim.checks.length c8):=(hk1.cell 38).trans (by rw[HM.o];rfl);have HK1:=lh hk1;clear hb1 hk1 c0 a34 a35 a36 a37 a38;have c1:=Cl_any x.claim Mh61.o Mh71.o Mh81.o
  cases h1:clV x.claim with
  | true =>
   rw[h1] at c1;have H1:=lh h1;clear h1
   go_wp2_with fail
   refine c1.mono ?_;rintro e w2 ⟨rfl,hb2⟩;have HB2:=lh (HB1.o.trans (hb2.mono HB1.o.size));clear hb2 c1 fb34 fb35 fb36 fb37 fb38
   go_wp2_with fail
   go_ret;refine⟨cgb ?_,HB2.o⟩;rw[HR.o]
   simp[ql2,H0.o,H1.o]
  | false =>
   rw[h1] at c1;have H1:=lh h1;clear h1
   go_wp2_with fail
   refine c1.mono ?_;rintro e w2 ⟨rfl,hb2⟩;have HB2:=lh (HB1.o.trans (hb2.mono HB1.o.size));clear hb2 c1 fb34 fb35 fb36 fb37 fb38
   go_wp2_with fail
   go_ret;refine⟨cgb ?_,HB2.o⟩;rw[HR.o]
   simp[ql2,H0.o,H1.o]
 | false =>
  rw[h0] at c0;have H0:=lh h0;clear h0
  go_wp2_with fail
  refine c0.mono ?_;rintro e w1 ⟨rfl,hb1⟩;have HB1:=lh (HB0.o.trans (hb1.mono HB0.o.size));clear hb1 c0 a34 a35 a36 a37 a38
  go_wp2_with fail
  go_ret;refine⟨cgb ?_,HB1.o⟩;rw[HR.o]
  simp[ql2,H0.o]
theorem Ok17_any {w:World} (x:Ms) {A1 A2 A3 A4 A5 A6 A7 A8:Option Addr} {c1 c2 c3 c4 c5 c6 c7 c8:Nat} :Calls Tryz.prog 101 #[.agg (mC x A1 A2 A3 A4 A5 A6 A7 A8 c1 c2 c3 c4 c5 c6 c7 c8)] w (qe7 w (ql4 x)):=by
 obtain⟨R,hR⟩:∃ R,R=ql4 x:=⟨_,rfl⟩
 rw[← hR];have HR:=lh hR
 obtain⟨W,hW⟩:∃ W,W=w.alloc (.cells (mC x A1 A2 A3 A4 A5 A6 A7 A8 c1 c2 c3 c4 c5 c6 c7 c8) 42):=⟨_,rfl⟩
 obtain⟨g,hg⟩:∃ g,g=w.heap.size:=⟨_,rfl⟩
 have hb0:bw w W:=by rw[hW];exact qa2 _ _
 have hk0:Bk W g 42 (mC x A1 A2 A3 A4 A5 A6 A7 A8 c1 c2 c3 c4 c5 c6 c7 c8):=by rw[hW,hg];exact Bk.new _ _ _
 have a3:cl W g 3 (.string x.name):=hk0.cell 3;have a4:cl W g 4 (iv x.ref.kind):=hk0.cell 4;have a5:cl W g 5 (iv x.ref.int):=hk0.cell 5;have a6:cl W g 6 (iv x.ref.owner):=hk0.cell 6;have a7:cl W g 7 (uv x.ref.number):=hk0.cell 7;have a8:cl W g 8 (iv x.ref.idm):=hk0.cell 8;have a9:cl W g 9 (iv x.ref.ids):=hk0.cell 9;have a10:cl W g 10 (iv x.ref.cls):=hk0.cell 10;have a11:cl W g 11 (.bool x.ref.weak):=hk0.cell 11;have HK0:=lh hk0;have HB0:=lh hb0;clear hb0 hk0 hR
 go_enter Tryz.func101,Tryz.ntmps101
 go_upto_region 1 with fail
 rw[← hW,← hg];clear hW hg;have c0:=Nam_any W x.name
 cases h0:nmV x.name with
 | true =>
  rw[h0] at c0;have H0:=lh h0;clear h0
  go_wp2_with fail
  refine c0.mono ?_;rintro e w1 ⟨rfl,hb1⟩;have HB1:=lh (HB0.o.trans (hb1.mono HB0.o.size));have hk1:=HK0.o.below hb1 HK0.o.lt;have fb3:cl w1 g 3 (.string x.name):=hk1.cell 3;have fb4:cl w1 g 4 (iv x.ref.kind):=hk1.cell 4;have fb5:cl w1 g 5 (iv x.ref.int):=hk1.cell 5;have fb6:cl w1 g 6 (iv x.ref.owner):=hk1.cell 6;have fb7:cl w1 g 7 (uv x.ref.number):=hk1.cell 7;have fb8:cl w1 g 8 (iv x.ref.idm):=hk1.cell 8;have fb9:cl w1 g 9 (iv x.ref.ids):=hk1.cell 9;have fb10:cl w1 g 10 (iv x.ref.cls):=hk1.cell 10;have fb11:cl w1 g 11 (.bool x.ref.weak):=hk1.cell 11;have HK1:=lh hk1;clear hb1 hk1 c0 a3 a4 a5 a6 a7 a8 a9 a10 a11;have c1:=Pl_any (w:=w1) x.ref
  cases h1:plV x.ref with
  | true =>
   rw[h1] at c1;have H1:=lh h1;clear h1
   go_wp2_with fail
   refine c1.mono ?_;rintro e w2 ⟨rfl,hb2⟩;have HB2:=lh (HB1.o.trans (hb2.mono HB1.o.size));have hk2:=HK1.o.below hb2 HK1.o.lt;have fc3:cl w2 g 3 (.string x.name):=hk2.cell 3;have fc4:cl w2 g 4 (iv x.ref.kind):=hk2.cell 4;have fc5:cl w2 g 5 (iv x.ref.int):=hk2.cell 5;have fc6:cl w2 g 6 (iv x.ref.owner):=hk2.cell 6;have fc7:cl w2 g 7 (uv x.ref.number):=hk2.cell 7;have fc8:cl w2 g 8 (iv x.ref.idm):=hk2.cell 8;have fc9:cl w2 g 9 (iv x.ref.ids):=hk2.cell 9;have fc10:cl w2 g 10 (iv x.ref.cls):=hk2.cell 10;have fc11:cl w2 g 11 (.bool x.ref.weak):=hk2.cell 11;have HK2:=lh hk2;clear hb2 hk2 c1 fb3 fb4 fb5 fb6 fb7 fb8 fb9 fb10 fb11
   cases h2:decide (x.ref.kind ≥ 2) with
   | true =>
    have q2:decide (x.ref.kind ≥ 2)=true:=h2;have H2:=lh h2;clear h2
    go_wp2_with fail
    go_ret;refine⟨cgb ?_,HB2.o⟩;rw[HR.o]
    simp[ql4,H0.o,H1.o,H2.o]
   | false =>
    have q2:decide (x.ref.kind ≥ 2)=false:=h2;have H2:=lh h2;clear h2
    go_wp2_with fail
    go_ret;refine⟨cgb ?_,HB2.o⟩;rw[HR.o]
    simp[ql4,H0.o,H1.o,H2.o]
  | false =>
   rw[h1] at c1;have H1:=lh h1;clear h1
   go_wp2_with fail
   refine c1.mono ?_;rintro e w2 ⟨rfl,hb2⟩;have HB2:=lh (HB1.o.trans (hb2.mono HB1.o.size));clear hb2 c1 fb3 fb4 fb5 fb6 fb7 fb8 fb9 fb10 fb11
   go_wp2_with fail
   go_ret;refine⟨cgb ?_,HB2.o⟩;rw[HR.o]
   simp[ql4,H0.o,H1.o]
 | false =>
  rw[h0] at c0;have H0:=lh h0;clear h0
  go_wp2_with fail
  refine c0.mono ?_;rintro e w1 ⟨rfl,hb1⟩;have HB1:=lh (HB0.o.trans (hb1.mono HB0.o.size));clear hb1 c0 a3 a4 a5 a6 a7 a8 a9 a10 a11
  go_wp2_with fail
  go_ret;refine⟨cgb ?_,HB1.o⟩;rw[HR.o]
  simp[ql4,H0.o]
theorem Ok5_any (w:World) (v:Array Value):Calls Tryz.prog 85 #[.agg v] w (qe7 w true):=by
 go_enter Tryz.func85,Tryz.ntmps85
 go_wp2_with fail
 go_ret;exact⟨rfl,qa2 _ _⟩
theorem Ok15_any (w:World) (v:Array Value):Calls Tryz.prog 152 #[.agg v] w (qe7 w true):=by
 go_enter Tryz.func152,Tryz.ntmps152
 go_wp2_with fail
 go_ret;exact⟨rfl,qa2 _ _⟩
def okV (k:Nat) (x:Ms):Bool :=
 match k with
 | 0=>ltV x.letter
 | 1=>pcV x.parcel
 | 2 | 3 | 6=>ql1 x.asker
 | 4 | 7=>ok4 x
 | 8=>ok8 x
 | 9=>ok9 x
 | 10=>ql2 x
 | 11 | 12 | 13 | 14=>trV x
 | 17=>ql4 x
 | _=>true
theorem Ok_any {w:World} {x:Ms} {r:List Value} (h:MsI w x r) {k:Nat} (hk:k < 18):Calls Tryz.prog (kB k) #[.agg r.toArray] w (qe7 w (okV k x)):=by
 obtain⟨A1,c1,A2,c2,A3,c3,A4,c4,A5,c5,A6,c6,A7,c7,A8,c8,rfl,h1,h2,h3,h4,h5,h6,h7,h8⟩:=h;rcases (show k=0 ∨ k=1 ∨ k=2 ∨ k=3 ∨ k=4 ∨ k=5 ∨ k=6 ∨ k=7 ∨ k=8 ∨ k=9 ∨ k=10 ∨ k=11 ∨ k=12 ∨ k=13 ∨ k=14 ∨ k=15 ∨ k=16 ∨ k=17 by omega) with rfl | rfl | rfl | rfl | rfl | rfl | rfl | rfl | rfl | rfl | rfl | rfl | rfl | rfl | rfl | rfl | rfl | rfl
 ·exact Ok0_any x h1
 ·exact Ok1_any x h2 h3 h4
 ·exact OkA_any x
 ·exact OkA_any x
 ·exact Ok4_any x
 ·exact Ok5_any w _
 ·exact OkA_any x
 ·exact Ok4_any x
 ·exact Ok8_any x rfl
 ·exact Ok9_any x rfl h5
 ·exact Ok10_any x rfl h6 h7 h8
 ·exact qv7 x
 ·exact qv7 x
 ·exact qv7 x
 ·exact qv7 x
 ·exact Ok15_any w _
 ·exact Ok15_any w _
 ·exact Ok17_any x
end
section
open Go.RowKit
attribute [local go_sem] Oper.semAt_some
def qd0:Array Value→Nat→List Value→Array Value
 | Z,_,[]=>Z
 | Z,o,v::l=>qd0 (Z.setIfInBounds o v) (o+1) l
def qq5 (g:Nat) (Z:Array Value) (w:World) (e:Ending) (w':World):Prop:=e=.returned (.tuple #[])∧Bk w' g 42 Z∧Kp (fun k=>k=g) w w'
theorem bz_keep4 {w:World} {g:Nat} {t:TypeId} {Z:Array Value} (h:Bk w g t Z) (v0 v1 v2 v3 v4 v5 v6 v7:Value):Bk (((((((((w).setCell ⟨g,4,none⟩ v0).setCell ⟨g,5,none⟩ v1).setCell ⟨g,6,none⟩ v2).setCell ⟨g,7,none⟩ v3).setCell ⟨g,8,none⟩ v4).setCell ⟨g,9,none⟩ v5).setCell ⟨g,10,none⟩ v6).setCell ⟨g,11,none⟩ v7) g t (qd0 Z 4 [v0,v1,v2,v3,v4,v5,v6,v7]):=((((((((h.set 4 v0).set 5 v1).set 6 v2).set 7 v3).set 8 v4).set 9 v5).set 10 v6).set 11 v7)
theorem kz_keep4 {w:World} {g:Nat} (v0 v1 v2 v3 v4 v5 v6 v7:Value):Kp (fun k=>k=g) w (((((((((w).setCell ⟨g,4,none⟩ v0).setCell ⟨g,5,none⟩ v1).setCell ⟨g,6,none⟩ v2).setCell ⟨g,7,none⟩ v3).setCell ⟨g,8,none⟩ v4).setCell ⟨g,9,none⟩ v5).setCell ⟨g,10,none⟩ v6).setCell ⟨g,11,none⟩ v7):=((((((((Kp.refl _ _).trans (Kp.setCell (S:=fun k=>k=g) _ ⟨g,4,none⟩ v0 rfl) (fun _ _ h=>h)).trans (Kp.setCell (S:=fun k=>k=g) _ ⟨g,5,none⟩ v1 rfl) (fun _ _ h=>h)).trans (Kp.setCell (S:=fun k=>k=g) _ ⟨g,6,none⟩ v2 rfl) (fun _ _ h=>h)).trans (Kp.setCell (S:=fun k=>k=g) _ ⟨g,7,none⟩ v3 rfl) (fun _ _ h=>h)).trans (Kp.setCell (S:=fun k=>k=g) _ ⟨g,8,none⟩ v4 rfl) (fun _ _ h=>h)).trans (Kp.setCell (S:=fun k=>k=g) _ ⟨g,9,none⟩ v5 rfl) (fun _ _ h=>h)).trans (Kp.setCell (S:=fun k=>k=g) _ ⟨g,10,none⟩ v6 rfl) (fun _ _ h=>h)).trans (Kp.setCell (S:=fun k=>k=g) _ ⟨g,11,none⟩ v7 rfl) (fun _ _ h=>h)
theorem keep4 {w:World} (x:Ms) {A1 A2 A3 A4 A5 A6 A7 A8:Option Addr} {c1 c2 c3 c4 c5 c6 c7 c8:Nat} {M Z:Array Value} (hM:M=(mC x A1 A2 A3 A4 A5 A6 A7 A8 c1 c2 c3 c4 c5 c6 c7 c8)) {g5:Nat} (hz:Bk w g5 42 Z) (hs:Z.size=39):Calls Tryz.prog 146 #[pq g5 0,.agg M] w (qq5 g5 (qd0 Z 4 [iv x.ref.kind,iv x.ref.int,iv x.ref.owner,uv x.ref.number,iv x.ref.idm,iv x.ref.ids,iv x.ref.cls,.bool x.ref.weak]) w):=by
 have HM:=lh hM;clear hM
 obtain⟨W,hW⟩:∃ W,W=w.alloc (.cells M 42):=⟨_,rfl⟩
 obtain⟨g,hg⟩:∃ g,g=w.heap.size:=⟨_,rfl⟩
 have hb0:bw w W:=by rw[hW];exact qa2 _ _
 have hk0:Bk W g 42 M:=by rw[hW,hg];exact Bk.new _ _ _
 have hz0:=hz.below hb0 hz.lt;have a4:cl W g 4 (iv x.ref.kind):=(hk0.cell 4).trans (by rw[HM.o];rfl)
 obtain⟨u4,hu4⟩:∃ u,W.cell? ⟨g5,4,none⟩=some u:=⟨_,(hz0.cell 4).trans (Array.getElem?_eq_getElem (by rw[hs];decide))⟩
 have a5:cl W g 5 (iv x.ref.int):=(hk0.cell 5).trans (by rw[HM.o];rfl)
 obtain⟨u5,hu5⟩:∃ u,W.cell? ⟨g5,5,none⟩=some u:=⟨_,(hz0.cell 5).trans (Array.getElem?_eq_getElem (by rw[hs];decide))⟩
 have a6:cl W g 6 (iv x.ref.owner):=(hk0.cell 6).trans (by rw[HM.o];rfl)
 obtain⟨u6,hu6⟩:∃ u,W.cell? ⟨g5,6,none⟩=some u:=⟨_,(hz0.cell 6).trans (Array.getElem?_eq_getElem (by rw[hs];decide))⟩
 have a7:cl W g 7 (uv x.ref.number):=(hk0.cell 7).trans (by rw[HM.o];rfl)
 obtain⟨u7,hu7⟩:∃ u,W.cell? ⟨g5,7,none⟩=some u:=⟨_,(hz0.cell 7).trans (Array.getElem?_eq_getElem (by rw[hs];decide))⟩
 have a8:cl W g 8 (iv x.ref.idm):=(hk0.cell 8).trans (by rw[HM.o];rfl)
 obtain⟨u8,hu8⟩:∃ u,W.cell? ⟨g5,8,none⟩=some u:=⟨_,(hz0.cell 8).trans (Array.getElem?_eq_getElem (by rw[hs];decide))⟩
 have a9:cl W g 9 (iv x.ref.ids):=(hk0.cell 9).trans (by rw[HM.o];rfl)
 obtain⟨u9,hu9⟩:∃ u,W.cell? ⟨g5,9,none⟩=some u:=⟨_,(hz0.cell 9).trans (Array.getElem?_eq_getElem (by rw[hs];decide))⟩
 have a10:cl W g 10 (iv x.ref.cls):=(hk0.cell 10).trans (by rw[HM.o];rfl)
 obtain⟨u10,hu10⟩:∃ u,W.cell? ⟨g5,10,none⟩=some u:=⟨_,(hz0.cell 10).trans (Array.getElem?_eq_getElem (by rw[hs];decide))⟩
 have a11:cl W g 11 (.bool x.ref.weak):=(hk0.cell 11).trans (by rw[HM.o];rfl)
 obtain⟨u11,hu11⟩:∃ u,W.cell? ⟨g5,11,none⟩=some u:=⟨_,(hz0.cell 11).trans (Array.getElem?_eq_getElem (by rw[hs];decide))⟩
 have e0:∀ j,W.frozen? ⟨g5,j,none⟩=false:=fun j=>hz0.free j;have HZ0:=lh hz0;have HKP:Hid (Kp (fun k=>k=g5) w W):=lh (Kp.of_below hb0);clear hb0 hk0 hz hz0 hs
 go_enter Tryz.func146,Tryz.ntmps146
 go_upto_region 1 with fail
 rw[← hW,← hg];clear hW hg
 go_wp2_with fail
 go_end0
 exact⟨rfl,bz_keep4 HZ0.o _ _ _ _ _ _ _ _,HKP.o.trans (kz_keep4 _ _ _ _ _ _ _ _) (fun _ _ h=>h)⟩
theorem bz_keep11 {w:World} {g:Nat} {t:TypeId} {Z:Array Value} (h:Bk w g t Z) (v0 v1:Value):Bk (((w).setCell ⟨g,24,none⟩ v0).setCell ⟨g,25,none⟩ v1) g t (qd0 Z 24 [v0,v1]):=((h.set 24 v0).set 25 v1)
theorem kz_keep11 {w:World} {g:Nat} (v0 v1:Value):Kp (fun k=>k=g) w (((w).setCell ⟨g,24,none⟩ v0).setCell ⟨g,25,none⟩ v1):=((Kp.refl _ _).trans (Kp.setCell (S:=fun k=>k=g) _ ⟨g,24,none⟩ v0 rfl) (fun _ _ h=>h)).trans (Kp.setCell (S:=fun k=>k=g) _ ⟨g,25,none⟩ v1 rfl) (fun _ _ h=>h)
theorem keep11 {w:World} (x:Ms) {A1 A2 A3 A4 A5 A6 A7 A8:Option Addr} {c1 c2 c3 c4 c5 c6 c7 c8:Nat} {M Z:Array Value} (hM:M=(mC x A1 A2 A3 A4 A5 A6 A7 A8 c1 c2 c3 c4 c5 c6 c7 c8)) {g5:Nat} (hz:Bk w g5 42 Z) (hs:Z.size=39):Calls Tryz.prog 149 #[pq g5 0,.agg M] w (qq5 g5 (qd0 Z 24 [iv x.tm,iv x.ts]) w):=by
 have HM:=lh hM;clear hM
 obtain⟨W,hW⟩:∃ W,W=w.alloc (.cells M 42):=⟨_,rfl⟩
 obtain⟨g,hg⟩:∃ g,g=w.heap.size:=⟨_,rfl⟩
 have hb0:bw w W:=by rw[hW];exact qa2 _ _
 have hk0:Bk W g 42 M:=by rw[hW,hg];exact Bk.new _ _ _
 have hz0:=hz.below hb0 hz.lt;have a24:cl W g 24 (iv x.tm):=(hk0.cell 24).trans (by rw[HM.o];rfl)
 obtain⟨u24,hu24⟩:∃ u,W.cell? ⟨g5,24,none⟩=some u:=⟨_,(hz0.cell 24).trans (Array.getElem?_eq_getElem (by rw[hs];decide))⟩
 have a25:cl W g 25 (iv x.ts):=(hk0.cell 25).trans (by rw[HM.o];rfl)
 obtain⟨u25,hu25⟩:∃ u,W.cell? ⟨g5,25,none⟩=some u:=⟨_,(hz0.cell 25).trans (Array.getElem?_eq_getElem (by rw[hs];decide))⟩
 have e0:∀ j,W.frozen? ⟨g5,j,none⟩=false:=fun j=>hz0.free j;have HZ0:=lh hz0;have HKP:Hid (Kp (fun k=>k=g5) w W):=lh (Kp.of_below hb0);clear hb0 hk0 hz hz0 hs
 go_enter Tryz.func149,Tryz.ntmps149
 go_upto_region 1 with fail
 rw[← hW,← hg];clear hW hg
 go_wp2_with fail
 go_end0
 exact⟨rfl,bz_keep11 HZ0.o _ _,HKP.o.trans (kz_keep11 _ _) (fun _ _ h=>h)⟩
theorem bz_keep1 {w:World} {g:Nat} {t:TypeId} {Z:Array Value} (h:Bk w g t Z) (v0 v1 v2 v3 v4 v5 v6 v7:Value):Bk (((((((((w).setCell ⟨g,16,none⟩ v0).setCell ⟨g,17,none⟩ v1).setCell ⟨g,18,none⟩ v2).setCell ⟨g,19,none⟩ v3).setCell ⟨g,20,none⟩ v4).setCell ⟨g,21,none⟩ v5).setCell ⟨g,22,none⟩ v6).setCell ⟨g,23,none⟩ v7) g t (qd0 Z 16 [v0,v1,v2,v3,v4,v5,v6,v7]):=((((((((h.set 16 v0).set 17 v1).set 18 v2).set 19 v3).set 20 v4).set 21 v5).set 22 v6).set 23 v7)
theorem kz_keep1 {w:World} {g:Nat} (v0 v1 v2 v3 v4 v5 v6 v7:Value):Kp (fun k=>k=g) w (((((((((w).setCell ⟨g,16,none⟩ v0).setCell ⟨g,17,none⟩ v1).setCell ⟨g,18,none⟩ v2).setCell ⟨g,19,none⟩ v3).setCell ⟨g,20,none⟩ v4).setCell ⟨g,21,none⟩ v5).setCell ⟨g,22,none⟩ v6).setCell ⟨g,23,none⟩ v7):=((((((((Kp.refl _ _).trans (Kp.setCell (S:=fun k=>k=g) _ ⟨g,16,none⟩ v0 rfl) (fun _ _ h=>h)).trans (Kp.setCell (S:=fun k=>k=g) _ ⟨g,17,none⟩ v1 rfl) (fun _ _ h=>h)).trans (Kp.setCell (S:=fun k=>k=g) _ ⟨g,18,none⟩ v2 rfl) (fun _ _ h=>h)).trans (Kp.setCell (S:=fun k=>k=g) _ ⟨g,19,none⟩ v3 rfl) (fun _ _ h=>h)).trans (Kp.setCell (S:=fun k=>k=g) _ ⟨g,20,none⟩ v4 rfl) (fun _ _ h=>h)).trans (Kp.setCell (S:=fun k=>k=g) _ ⟨g,21,none⟩ v5 rfl) (fun _ _ h=>h)).trans (Kp.setCell (S:=fun k=>k=g) _ ⟨g,22,none⟩ v6 rfl) (fun _ _ h=>h)).trans (Kp.setCell (S:=fun k=>k=g) _ ⟨g,23,none⟩ v7 rfl) (fun _ _ h=>h)
theorem keep1 {w:World} (x:Ms) {A1 A2 A3 A4 A5 A6 A7 A8:Option Addr} {c1 c2 c3 c4 c5 c6 c7 c8:Nat} {M Z:Array Value} (hM:M=(mC x A1 A2 A3 A4 A5 A6 A7 A8 c1 c2 c3 c4 c5 c6 c7 c8)) {g5:Nat} (hz:Bk w g5 42 Z) (hs:Z.size=39):Calls Tryz.prog 79 #[pq g5 0,.agg M] w (qq5 g5 (qd0 Z 16 [uv x.parcel.number,iv x.parcel.idm,iv x.parcel.ids,iv x.parcel.kind,iv x.parcel.cls,.slice A2 x.parcel.fields.length c2,.slice A3 x.parcel.mail.length c3,.slice A4 x.parcel.watches.length c4]) w):=by
 have HM:=lh hM;clear hM
 obtain⟨W,hW⟩:∃ W,W=w.alloc (.cells M 42):=⟨_,rfl⟩
 obtain⟨g,hg⟩:∃ g,g=w.heap.size:=⟨_,rfl⟩
 have hb0:bw w W:=by rw[hW];exact qa2 _ _
 have hk0:Bk W g 42 M:=by rw[hW,hg];exact Bk.new _ _ _
 have hz0:=hz.below hb0 hz.lt;have a16:cl W g 16 (uv x.parcel.number):=(hk0.cell 16).trans (by rw[HM.o];rfl)
 obtain⟨u16,hu16⟩:∃ u,W.cell? ⟨g5,16,none⟩=some u:=⟨_,(hz0.cell 16).trans (Array.getElem?_eq_getElem (by rw[hs];decide))⟩
 have a17:cl W g 17 (iv x.parcel.idm):=(hk0.cell 17).trans (by rw[HM.o];rfl)
 obtain⟨u17,hu17⟩:∃ u,W.cell? ⟨g5,17,none⟩=some u:=⟨_,(hz0.cell 17).trans (Array.getElem?_eq_getElem (by rw[hs];decide))⟩
 have a18:cl W g 18 (iv x.parcel.ids):=(hk0.cell 18).trans (by rw[HM.o];rfl)
 obtain⟨u18,hu18⟩:∃ u,W.cell? ⟨g5,18,none⟩=some u:=⟨_,(hz0.cell 18).trans (Array.getElem?_eq_getElem (by rw[hs];decide))⟩
 have a19:cl W g 19 (iv x.parcel.kind):=(hk0.cell 19).trans (by rw[HM.o];rfl)
 obtain⟨u19,hu19⟩:∃ u,W.cell? ⟨g5,19,none⟩=some u:=⟨_,(hz0.cell 19).trans (Array.getElem?_eq_getElem (by rw[hs];decide))⟩
 have a20:cl W g 20 (iv x.parcel.cls):=(hk0.cell 20).trans (by rw[HM.o];rfl)
 obtain⟨u20,hu20⟩:∃ u,W.cell? ⟨g5,20,none⟩=some u:=⟨_,(hz0.cell 20).trans (Array.getElem?_eq_getElem (by rw[hs];decide))⟩
 have a21:cl W g 21 (.slice A2 x.parcel.fields.length c2):=(hk0.cell 21).trans (by rw[HM.o];rfl)
 obtain⟨u21,hu21⟩:∃ u,W.cell? ⟨g5,21,none⟩=some u:=⟨_,(hz0.cell 21).trans (Array.getElem?_eq_getElem (by rw[hs];decide))⟩
 have a22:cl W g 22 (.slice A3 x.parcel.mail.length c3):=(hk0.cell 22).trans (by rw[HM.o];rfl)
 obtain⟨u22,hu22⟩:∃ u,W.cell? ⟨g5,22,none⟩=some u:=⟨_,(hz0.cell 22).trans (Array.getElem?_eq_getElem (by rw[hs];decide))⟩
 have a23:cl W g 23 (.slice A4 x.parcel.watches.length c4):=(hk0.cell 23).trans (by rw[HM.o];rfl)
 obtain⟨u23,hu23⟩:∃ u,W.cell? ⟨g5,23,none⟩=some u:=⟨_,(hz0.cell 23).trans (Array.getElem?_eq_getElem (by rw[hs];decide))⟩
 have e0:∀ j,W.frozen? ⟨g5,j,none⟩=false:=fun j=>hz0.free j;have HZ0:=lh hz0;have HKP:Hid (Kp (fun k=>k=g5) w W):=lh (Kp.of_below hb0);clear hb0 hk0 hz hz0 hs
 go_enter Tryz.func79,Tryz.ntmps79
 go_upto_region 1 with fail
 rw[← hW,← hg];clear hW hg
 go_wp2_with fail
 go_end0
 exact⟨rfl,bz_keep1 HZ0.o _ _ _ _ _ _ _ _,HKP.o.trans (kz_keep1 _ _ _ _ _ _ _ _) (fun _ _ h=>h)⟩
theorem bz_keep5 {w:World} {g:Nat} {t:TypeId} {Z:Array Value} (h:Bk w g t Z) (v0:Value):Bk ((w).setCell ⟨g,1,none⟩ v0) g t (qd0 Z 1 [v0]):=(h.set 1 v0)
theorem kz_keep5 {w:World} {g:Nat} (v0:Value):Kp (fun k=>k=g) w ((w).setCell ⟨g,1,none⟩ v0):=(Kp.refl _ _).trans (Kp.setCell (S:=fun k=>k=g) _ ⟨g,1,none⟩ v0 rfl) (fun _ _ h=>h)
theorem keep5 {w:World} (x:Ms) {A1 A2 A3 A4 A5 A6 A7 A8:Option Addr} {c1 c2 c3 c4 c5 c6 c7 c8:Nat} {M Z:Array Value} (hM:M=(mC x A1 A2 A3 A4 A5 A6 A7 A8 c1 c2 c3 c4 c5 c6 c7 c8)) {g5:Nat} (hz:Bk w g5 42 Z) (hs:Z.size=39):Calls Tryz.prog 84 #[pq g5 0,.agg M] w (qq5 g5 (qd0 Z 1 [uv x.number]) w):=by
 have HM:=lh hM;clear hM
 obtain⟨W,hW⟩:∃ W,W=w.alloc (.cells M 42):=⟨_,rfl⟩
 obtain⟨g,hg⟩:∃ g,g=w.heap.size:=⟨_,rfl⟩
 have hb0:bw w W:=by rw[hW];exact qa2 _ _
 have hk0:Bk W g 42 M:=by rw[hW,hg];exact Bk.new _ _ _
 have hz0:=hz.below hb0 hz.lt;have a1:cl W g 1 (uv x.number):=(hk0.cell 1).trans (by rw[HM.o];rfl)
 obtain⟨u1,hu1⟩:∃ u,W.cell? ⟨g5,1,none⟩=some u:=⟨_,(hz0.cell 1).trans (Array.getElem?_eq_getElem (by rw[hs];decide))⟩
 have e0:∀ j,W.frozen? ⟨g5,j,none⟩=false:=fun j=>hz0.free j;have HZ0:=lh hz0;have HKP:Hid (Kp (fun k=>k=g5) w W):=lh (Kp.of_below hb0);clear hb0 hk0 hz hz0 hs
 go_enter Tryz.func84,Tryz.ntmps84
 go_upto_region 1 with fail
 rw[← hW,← hg];clear hW hg
 go_wp2_with fail
 go_end0
 exact⟨rfl,bz_keep5 HZ0.o _,HKP.o.trans (kz_keep5 _) (fun _ _ h=>h)⟩
theorem keep15 {w:World} {M Z:Array Value} {g5:Nat} (hz:Bk w g5 42 Z):Calls Tryz.prog 151 #[pq g5 0,.agg M] w (qq5 g5 Z w):=by
 have HK:Hid (qq5 g5 Z w (.returned (.tuple #[])) (w.alloc (.cells M 42))):=lh ⟨rfl,hz.below (qa2 _ _) hz.lt,Kp.of_below (qa2 _ _)⟩;clear hz
 go_enter Tryz.func151,Tryz.ntmps151
 go_wp2_with fail
 go_end0
 exact HK.o
end
end Go.Proofs.YtmbnlccafcfbeaaGreatDoor
