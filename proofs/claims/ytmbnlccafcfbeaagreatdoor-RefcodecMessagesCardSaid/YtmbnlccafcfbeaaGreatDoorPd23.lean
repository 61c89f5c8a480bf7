/- Parts of the proof: RcU. -/
import Derived.Deep.MidRow
import Derived.Test.YtmbnlccafcfbeaaGreatDoorPdA
import Derived.Test.YtmbnlccafcfbeaaGreatDoorPd22
set_option linter.unusedVariables false
set_option linter.unusedSimpArgs false
set_option linter.unusedSectionVars false
set_option maxRecDepth 100000
namespace Go.Proofs.YtmbnlccafcfbeaaGreatDoor
section
open Go.RowKit
attribute [local go_sem] Oper.semAt_some
theorem Bk.rng {w:World} {g:Nat} {t:TypeId} {M:Array Value} (h:Bk w g t M):w.rangeAt g 0 M.toList:=fun j v hv=>by rw[Nat.zero_add,h.cell j];simpa using hv
def ok4 (x:Ms):Bool:=plV x.ref && (x.ref.kind == 3)
def ok8 (x:Ms):Bool:=trV x && mchV x.asker
def ok9 (x:Ms):Bool:=trV x && anV x.answer
def ok10 (x:Ms):Bool:=trV x && clV x.claim
def ok17 (x:Ms):Bool:=nmV x.name && plV x.ref && decide (x.ref.kind ≥ 2)
set_option maxHeartbeats 4000000 in
theorem Ok0_any {w:World} (x:Ms) {A1 A2 A3 A4 A5 A6 A7 A8:Option Addr} {c1 c2 c3 c4 c5 c6 c7 c8:Nat} (h1:LsI (flat rfC) 26 8 w A1 c1 x.letter.args):Calls Tryz.prog 73 #[.agg #[.int .i64 x.kind,.int .u64 x.number,.int .i64 x.asker,.string x.name,.int .i64 x.ref.kind,.int .i64 x.ref.int,.int .i64 x.ref.owner,.int .u64 x.ref.number,.int .i64 x.ref.idm,.int .i64 x.ref.ids,.int .i64 x.ref.cls,.bool x.ref.weak,.int .i64 x.letter.idm,.int .i64 x.letter.ids,.string x.letter.meth,.slice A1 x.letter.args.length c1,.int .u64 x.parcel.number,.int .i64 x.parcel.idm,.int .i64 x.parcel.ids,.int .i64 x.parcel.kind,.int .i64 x.parcel.cls,.slice A2 x.parcel.fields.length c2,.slice A3 x.parcel.mail.length c3,.slice A4 x.parcel.watches.length c4,.int .i64 x.tm,.int .i64 x.ts,.int .i64 x.answer.machine,.int .i64 x.answer.owner,.int .u64 x.answer.number,.int .i64 x.answer.epoch,.bool x.answer.known,.bool x.answer.rooted,.int .i64 x.answer.last,.slice A5 x.answer.inset.length c5,.int .i64 x.claim.machine,.int .i64 x.claim.epoch,.slice A6 x.claim.stubs.length c6,.slice A7 x.claim.scions.length c7,.slice A8 x.claim.checks.length c8]] w (YesP w (ltV x.letter)):=by
 obtain⟨R,hR⟩:∃ R,R=ltV x.letter:=⟨_,rfl⟩
 rw[← hR]
 have HR:=lh hR
 obtain⟨W,hW⟩:∃ W,W=w.alloc (.cells #[.int .i64 x.kind,.int .u64 x.number,.int .i64 x.asker,.string x.name,.int .i64 x.ref.kind,.int .i64 x.ref.int,.int .i64 x.ref.owner,.int .u64 x.ref.number,.int .i64 x.ref.idm,.int .i64 x.ref.ids,.int .i64 x.ref.cls,.bool x.ref.weak,.int .i64 x.letter.idm,.int .i64 x.letter.ids,.string x.letter.meth,.slice A1 x.letter.args.length c1,.int .u64 x.parcel.number,.int .i64 x.parcel.idm,.int .i64 x.parcel.ids,.int .i64 x.parcel.kind,.int .i64 x.parcel.cls,.slice A2 x.parcel.fields.length c2,.slice A3 x.parcel.mail.length c3,.slice A4 x.parcel.watches.length c4,.int .i64 x.tm,.int .i64 x.ts,.int .i64 x.answer.machine,.int .i64 x.answer.owner,.int .u64 x.answer.number,.int .i64 x.answer.epoch,.bool x.answer.known,.bool x.answer.rooted,.int .i64 x.answer.last,.slice A5 x.answer.inset.length c5,.int .i64 x.claim.machine,.int .i64 x.claim.epoch,.slice A6 x.claim.stubs.length c6,.slice A7 x.claim.scions.length c7,.slice A8 x.claim.checks.length c8] 42):=⟨_,rfl⟩
 obtain⟨g,hg⟩:∃ g,g=w.heap.size:=⟨_,rfl⟩
 have hb0:Below w.heap.size w W:=by rw[hW];exact below_one _ _
 have hk0:Bk W g 42 #[.int .i64 x.kind,.int .u64 x.number,.int .i64 x.asker,.string x.name,.int .i64 x.ref.kind,.int .i64 x.ref.int,.int .i64 x.ref.owner,.int .u64 x.ref.number,.int .i64 x.ref.idm,.int .i64 x.ref.ids,.int .i64 x.ref.cls,.bool x.ref.weak,.int .i64 x.letter.idm,.int .i64 x.letter.ids,.string x.letter.meth,.slice A1 x.letter.args.length c1,.int .u64 x.parcel.number,.int .i64 x.parcel.idm,.int .i64 x.parcel.ids,.int .i64 x.parcel.kind,.int .i64 x.parcel.cls,.slice A2 x.parcel.fields.length c2,.slice A3 x.parcel.mail.length c3,.slice A4 x.parcel.watches.length c4,.int .i64 x.tm,.int .i64 x.ts,.int .i64 x.answer.machine,.int .i64 x.answer.owner,.int .u64 x.answer.number,.int .i64 x.answer.epoch,.bool x.answer.known,.bool x.answer.rooted,.int .i64 x.answer.last,.slice A5 x.answer.inset.length c5,.int .i64 x.claim.machine,.int .i64 x.claim.epoch,.slice A6 x.claim.stubs.length c6,.slice A7 x.claim.scions.length c7,.slice A8 x.claim.checks.length c8]:=by rw[hW,hg];exact Bk.new _ _ _
 have Mh10:Hid (LsI (flat rfC) 26 8 W A1 c1 x.letter.args):=lh (h1.below (flat_ru rfC) (flat_rk rfC) hb0)
 have a12:W.cell? ⟨g,12,none⟩=some (.int .i64 x.letter.idm):=hk0.cell 12
 have a13:W.cell? ⟨g,13,none⟩=some (.int .i64 x.letter.ids):=hk0.cell 13
 have a14:W.cell? ⟨g,14,none⟩=some (.string x.letter.meth):=hk0.cell 14
 have a15:W.cell? ⟨g,15,none⟩=some (.slice A1 x.letter.args.length c1):=hk0.cell 15
 have HK0:=lh hk0
 have HB0:=lh hb0
 clear hb0 hk0 hR h1
 go_enter Tryz.func73,Tryz.ntmps73
 go_upto_region 1 with fail
 rw[← hW,← hg]
 clear hW hg
 have c0:=Lt_any x.letter Mh10.out
 cases h0:ltV x.letter with
 | true =>
  rw[h0] at c0
  have H0:=lh h0
  clear h0
  go_wp2_with fail
  refine c0.mono ?_
  rintro e w1 ⟨rfl,hb1⟩
  have HB1:=lh (HB0.out.trans (hb1.mono HB0.out.size))
  clear hb1 c0 a12 a13 a14 a15
  go_wp2_with fail
  go_ret
  refine⟨congrArg (fun b=>Ending.returned (Value.bool b)) ?_,HB1.out⟩
  rw[HR.out]
  simp[id,H0.out]
 | false =>
  rw[h0] at c0
  have H0:=lh h0
  clear h0
  go_wp2_with fail
  refine c0.mono ?_
  rintro e w1 ⟨rfl,hb1⟩
  have HB1:=lh (HB0.out.trans (hb1.mono HB0.out.size))
  clear hb1 c0 a12 a13 a14 a15
  go_wp2_with fail
  go_ret
  refine⟨congrArg (fun b=>Ending.returned (Value.bool b)) ?_,HB1.out⟩
  rw[HR.out]
  simp[id,H0.out]
set_option maxHeartbeats 4000000 in
theorem Ok1_any {w:World} (x:Ms) {A1 A2 A3 A4 A5 A6 A7 A8:Option Addr} {c1 c2 c3 c4 c5 c6 c7 c8:Nat} (h2:LsI (flat rfC) 26 8 w A2 c2 x.parcel.fields) (h3:LsI (LtR) 29 4 w A3 c3 x.parcel.mail) (h4:LsI (flat waC) 65 12 w A4 c4 x.parcel.watches):Calls Tryz.prog 80 #[.agg #[.int .i64 x.kind,.int .u64 x.number,.int .i64 x.asker,.string x.name,.int .i64 x.ref.kind,.int .i64 x.ref.int,.int .i64 x.ref.owner,.int .u64 x.ref.number,.int .i64 x.ref.idm,.int .i64 x.ref.ids,.int .i64 x.ref.cls,.bool x.ref.weak,.int .i64 x.letter.idm,.int .i64 x.letter.ids,.string x.letter.meth,.slice A1 x.letter.args.length c1,.int .u64 x.parcel.number,.int .i64 x.parcel.idm,.int .i64 x.parcel.ids,.int .i64 x.parcel.kind,.int .i64 x.parcel.cls,.slice A2 x.parcel.fields.length c2,.slice A3 x.parcel.mail.length c3,.slice A4 x.parcel.watches.length c4,.int .i64 x.tm,.int .i64 x.ts,.int .i64 x.answer.machine,.int .i64 x.answer.owner,.int .u64 x.answer.number,.int .i64 x.answer.epoch,.bool x.answer.known,.bool x.answer.rooted,.int .i64 x.answer.last,.slice A5 x.answer.inset.length c5,.int .i64 x.claim.machine,.int .i64 x.claim.epoch,.slice A6 x.claim.stubs.length c6,.slice A7 x.claim.scions.length c7,.slice A8 x.claim.checks.length c8]] w (YesP w (pcV x.parcel)):=by
 obtain⟨R,hR⟩:∃ R,R=pcV x.parcel:=⟨_,rfl⟩
 rw[← hR]
 have HR:=lh hR
 obtain⟨W,hW⟩:∃ W,W=w.alloc (.cells #[.int .i64 x.kind,.int .u64 x.number,.int .i64 x.asker,.string x.name,.int .i64 x.ref.kind,.int .i64 x.ref.int,.int .i64 x.ref.owner,.int .u64 x.ref.number,.int .i64 x.ref.idm,.int .i64 x.ref.ids,.int .i64 x.ref.cls,.bool x.ref.weak,.int .i64 x.letter.idm,.int .i64 x.letter.ids,.string x.letter.meth,.slice A1 x.letter.args.length c1,.int .u64 x.parcel.number,.int .i64 x.parcel.idm,.int .i64 x.parcel.ids,.int .i64 x.parcel.kind,.int .i64 x.parcel.cls,.slice A2 x.parcel.fields.length c2,.slice A3 x.parcel.mail.length c3,.slice A4 x.parcel.watches.length c4,.int .i64 x.tm,.int .i64 x.ts,.int .i64 x.answer.machine,.int .i64 x.answer.owner,.int .u64 x.answer.number,.int .i64 x.answer.epoch,.bool x.answer.known,.bool x.answer.rooted,.int .i64 x.answer.last,.slice A5 x.answer.inset.length c5,.int .i64 x.claim.machine,.int .i64 x.claim.epoch,.slice A6 x.claim.stubs.length c6,.slice A7 x.claim.scions.length c7,.slice A8 x.claim.checks.length c8] 42):=⟨_,rfl⟩
 obtain⟨g,hg⟩:∃ g,g=w.heap.size:=⟨_,rfl⟩
 have hb0:Below w.heap.size w W:=by rw[hW];exact below_one _ _
 have hk0:Bk W g 42 #[.int .i64 x.kind,.int .u64 x.number,.int .i64 x.asker,.string x.name,.int .i64 x.ref.kind,.int .i64 x.ref.int,.int .i64 x.ref.owner,.int .u64 x.ref.number,.int .i64 x.ref.idm,.int .i64 x.ref.ids,.int .i64 x.ref.cls,.bool x.ref.weak,.int .i64 x.letter.idm,.int .i64 x.letter.ids,.string x.letter.meth,.slice A1 x.letter.args.length c1,.int .u64 x.parcel.number,.int .i64 x.parcel.idm,.int .i64 x.parcel.ids,.int .i64 x.parcel.kind,.int .i64 x.parcel.cls,.slice A2 x.parcel.fields.length c2,.slice A3 x.parcel.mail.length c3,.slice A4 x.parcel.watches.length c4,.int .i64 x.tm,.int .i64 x.ts,.int .i64 x.answer.machine,.int .i64 x.answer.owner,.int .u64 x.answer.number,.int .i64 x.answer.epoch,.bool x.answer.known,.bool x.answer.rooted,.int .i64 x.answer.last,.slice A5 x.answer.inset.length c5,.int .i64 x.claim.machine,.int .i64 x.claim.epoch,.slice A6 x.claim.stubs.length c6,.slice A7 x.claim.scions.length c7,.slice A8 x.claim.checks.length c8]:=by rw[hW,hg];exact Bk.new _ _ _
 have Mh20:Hid (LsI (flat rfC) 26 8 W A2 c2 x.parcel.fields):=lh (h2.below (flat_ru rfC) (flat_rk rfC) hb0)
 have Mh30:Hid (LsI (LtR) 29 4 W A3 c3 x.parcel.mail):=lh (h3.below (ltR_ru) (ltR_rk) hb0)
 have Mh40:Hid (LsI (flat waC) 65 12 W A4 c4 x.parcel.watches):=lh (h4.below (flat_ru waC) (flat_rk waC) hb0)
 have a16:W.cell? ⟨g,16,none⟩=some (.int .u64 x.parcel.number):=hk0.cell 16
 have a17:W.cell? ⟨g,17,none⟩=some (.int .i64 x.parcel.idm):=hk0.cell 17
 have a18:W.cell? ⟨g,18,none⟩=some (.int .i64 x.parcel.ids):=hk0.cell 18
 have a19:W.cell? ⟨g,19,none⟩=some (.int .i64 x.parcel.kind):=hk0.cell 19
 have a20:W.cell? ⟨g,20,none⟩=some (.int .i64 x.parcel.cls):=hk0.cell 20
 have a21:W.cell? ⟨g,21,none⟩=some (.slice A2 x.parcel.fields.length c2):=hk0.cell 21
 have a22:W.cell? ⟨g,22,none⟩=some (.slice A3 x.parcel.mail.length c3):=hk0.cell 22
 have a23:W.cell? ⟨g,23,none⟩=some (.slice A4 x.parcel.watches.length c4):=hk0.cell 23
 have HK0:=lh hk0
 have HB0:=lh hb0
 clear hb0 hk0 hR h2 h3 h4
 go_enter Tryz.func80,Tryz.ntmps80
 go_upto_region 1 with fail
 rw[← hW,← hg]
 clear hW hg
 have c0:=Pc_any x.parcel Mh20.out Mh30.out Mh40.out
 cases h0:pcV x.parcel with
 | true =>
  rw[h0] at c0
  have H0:=lh h0
  clear h0
  go_wp2_with fail
  refine c0.mono ?_
  rintro e w1 ⟨rfl,hb1⟩
  have HB1:=lh (HB0.out.trans (hb1.mono HB0.out.size))
  clear hb1 c0 a16 a17 a18 a19 a20 a21 a22 a23
  go_wp2_with fail
  go_ret
  refine⟨congrArg (fun b=>Ending.returned (Value.bool b)) ?_,HB1.out⟩
  rw[HR.out]
  simp[id,H0.out]
 | false =>
  rw[h0] at c0
  have H0:=lh h0
  clear h0
  go_wp2_with fail
  refine c0.mono ?_
  rintro e w1 ⟨rfl,hb1⟩
  have HB1:=lh (HB0.out.trans (hb1.mono HB0.out.size))
  clear hb1 c0 a16 a17 a18 a19 a20 a21 a22 a23
  go_wp2_with fail
  go_ret
  refine⟨congrArg (fun b=>Ending.returned (Value.bool b)) ?_,HB1.out⟩
  rw[HR.out]
  simp[id,H0.out]
set_option maxHeartbeats 4000000 in
theorem OkA_any {w:World} (x:Ms) {A1 A2 A3 A4 A5 A6 A7 A8:Option Addr} {c1 c2 c3 c4 c5 c6 c7 c8:Nat} :Calls Tryz.prog 144 #[.agg #[.int .i64 x.kind,.int .u64 x.number,.int .i64 x.asker,.string x.name,.int .i64 x.ref.kind,.int .i64 x.ref.int,.int .i64 x.ref.owner,.int .u64 x.ref.number,.int .i64 x.ref.idm,.int .i64 x.ref.ids,.int .i64 x.ref.cls,.bool x.ref.weak,.int .i64 x.letter.idm,.int .i64 x.letter.ids,.string x.letter.meth,.slice A1 x.letter.args.length c1,.int .u64 x.parcel.number,.int .i64 x.parcel.idm,.int .i64 x.parcel.ids,.int .i64 x.parcel.kind,.int .i64 x.parcel.cls,.slice A2 x.parcel.fields.length c2,.slice A3 x.parcel.mail.length c3,.slice A4 x.parcel.watches.length c4,.int .i64 x.tm,.int .i64 x.ts,.int .i64 x.answer.machine,.int .i64 x.answer.owner,.int .u64 x.answer.number,.int .i64 x.answer.epoch,.bool x.answer.known,.bool x.answer.rooted,.int .i64 x.answer.last,.slice A5 x.answer.inset.length c5,.int .i64 x.claim.machine,.int .i64 x.claim.epoch,.slice A6 x.claim.stubs.length c6,.slice A7 x.claim.scions.length c7,.slice A8 x.claim.checks.length c8]] w (YesP w (mchV x.asker)):=by
 obtain⟨R,hR⟩:∃ R,R=mchV x.asker:=⟨_,rfl⟩
 rw[← hR]
 have HR:=lh hR
 obtain⟨W,hW⟩:∃ W,W=w.alloc (.cells #[.int .i64 x.kind,.int .u64 x.number,.int .i64 x.asker,.string x.name,.int .i64 x.ref.kind,.int .i64 x.ref.int,.int .i64 x.ref.owner,.int .u64 x.ref.number,.int .i64 x.ref.idm,.int .i64 x.ref.ids,.int .i64 x.ref.cls,.bool x.ref.weak,.int .i64 x.letter.idm,.int .i64 x.letter.ids,.string x.letter.meth,.slice A1 x.letter.args.length c1,.int .u64 x.parcel.number,.int .i64 x.parcel.idm,.int .i64 x.parcel.ids,.int .i64 x.parcel.kind,.int .i64 x.parcel.cls,.slice A2 x.parcel.fields.length c2,.slice A3 x.parcel.mail.length c3,.slice A4 x.parcel.watches.length c4,.int .i64 x.tm,.int .i64 x.ts,.int .i64 x.answer.machine,.int .i64 x.answer.owner,.int .u64 x.answer.number,.int .i64 x.answer.epoch,.bool x.answer.known,.bool x.answer.rooted,.int .i64 x.answer.last,.slice A5 x.answer.inset.length c5,.int .i64 x.claim.machine,.int .i64 x.claim.epoch,.slice A6 x.claim.stubs.length c6,.slice A7 x.claim.scions.length c7,.slice A8 x.claim.checks.length c8] 42):=⟨_,rfl⟩
 obtain⟨g,hg⟩:∃ g,g=w.heap.size:=⟨_,rfl⟩
 have hb0:Below w.heap.size w W:=by rw[hW];exact below_one _ _
 have hk0:Bk W g 42 #[.int .i64 x.kind,.int .u64 x.number,.int .i64 x.asker,.string x.name,.int .i64 x.ref.kind,.int .i64 x.ref.int,.int .i64 x.ref.owner,.int .u64 x.ref.number,.int .i64 x.ref.idm,.int .i64 x.ref.ids,.int .i64 x.ref.cls,.bool x.ref.weak,.int .i64 x.letter.idm,.int .i64 x.letter.ids,.string x.letter.meth,.slice A1 x.letter.args.length c1,.int .u64 x.parcel.number,.int .i64 x.parcel.idm,.int .i64 x.parcel.ids,.int .i64 x.parcel.kind,.int .i64 x.parcel.cls,.slice A2 x.parcel.fields.length c2,.slice A3 x.parcel.mail.length c3,.slice A4 x.parcel.watches.length c4,.int .i64 x.tm,.int .i64 x.ts,.int .i64 x.answer.machine,.int .i64 x.answer.owner,.int .u64 x.answer.number,.int .i64 x.answer.epoch,.bool x.answer.known,.bool x.answer.rooted,.int .i64 x.answer.last,.slice A5 x.answer.inset.length c5,.int .i64 x.claim.machine,.int .i64 x.claim.epoch,.slice A6 x.claim.stubs.length c6,.slice A7 x.claim.scions.length c7,.slice A8 x.claim.checks.length c8]:=by rw[hW,hg];exact Bk.new _ _ _
 have a2:W.cell? ⟨g,2,none⟩=some (.int .i64 x.asker):=hk0.cell 2
 have HK0:=lh hk0
 have HB0:=lh hb0
 clear hb0 hk0 hR
 go_enter Tryz.func144,Tryz.ntmps144
 go_upto_region 1 with fail
 rw[← hW,← hg]
 clear hW hg
 have c0:=Mach_any W x.asker
 cases h0:mchV x.asker with
 | true =>
  rw[h0] at c0
  have H0:=lh h0
  clear h0
  go_wp2_with fail
  refine c0.mono ?_
  rintro e w1 ⟨rfl,hb1⟩
  have HB1:=lh (HB0.out.trans (hb1.mono HB0.out.size))
  clear hb1 c0 a2
  go_wp2_with fail
  go_ret
  refine⟨congrArg (fun b=>Ending.returned (Value.bool b)) ?_,HB1.out⟩
  rw[HR.out]
  simp[id,H0.out]
 | false =>
  rw[h0] at c0
  have H0:=lh h0
  clear h0
  go_wp2_with fail
  refine c0.mono ?_
  rintro e w1 ⟨rfl,hb1⟩
  have HB1:=lh (HB0.out.trans (hb1.mono HB0.out.size))
  clear hb1 c0 a2
  go_wp2_with fail
  go_ret
  refine⟨congrArg (fun b=>Ending.returned (Value.bool b)) ?_,HB1.out⟩
  rw[HR.out]
  simp[id,H0.out]
set_option maxHeartbeats 4000000 in
theorem Ok4_any {w:World} (x:Ms) {A1 A2 A3 A4 A5 A6 A7 A8:Option Addr} {c1 c2 c3 c4 c5 c6 c7 c8:Nat} :Calls Tryz.prog 147 #[.agg #[.int .i64 x.kind,.int .u64 x.number,.int .i64 x.asker,.string x.name,.int .i64 x.ref.kind,.int .i64 x.ref.int,.int .i64 x.ref.owner,.int .u64 x.ref.number,.int .i64 x.ref.idm,.int .i64 x.ref.ids,.int .i64 x.ref.cls,.bool x.ref.weak,.int .i64 x.letter.idm,.int .i64 x.letter.ids,.string x.letter.meth,.slice A1 x.letter.args.length c1,.int .u64 x.parcel.number,.int .i64 x.parcel.idm,.int .i64 x.parcel.ids,.int .i64 x.parcel.kind,.int .i64 x.parcel.cls,.slice A2 x.parcel.fields.length c2,.slice A3 x.parcel.mail.length c3,.slice A4 x.parcel.watches.length c4,.int .i64 x.tm,.int .i64 x.ts,.int .i64 x.answer.machine,.int .i64 x.answer.owner,.int .u64 x.answer.number,.int .i64 x.answer.epoch,.bool x.answer.known,.bool x.answer.rooted,.int .i64 x.answer.last,.slice A5 x.answer.inset.length c5,.int .i64 x.claim.machine,.int .i64 x.claim.epoch,.slice A6 x.claim.stubs.length c6,.slice A7 x.claim.scions.length c7,.slice A8 x.claim.checks.length c8]] w (YesP w (ok4 x)):=by
 obtain⟨R,hR⟩:∃ R,R=ok4 x:=⟨_,rfl⟩
 rw[← hR]
 have HR:=lh hR
 obtain⟨W,hW⟩:∃ W,W=w.alloc (.cells #[.int .i64 x.kind,.int .u64 x.number,.int .i64 x.asker,.string x.name,.int .i64 x.ref.kind,.int .i64 x.ref.int,.int .i64 x.ref.owner,.int .u64 x.ref.number,.int .i64 x.ref.idm,.int .i64 x.ref.ids,.int .i64 x.ref.cls,.bool x.ref.weak,.int .i64 x.letter.idm,.int .i64 x.letter.ids,.string x.letter.meth,.slice A1 x.letter.args.length c1,.int .u64 x.parcel.number,.int .i64 x.parcel.idm,.int .i64 x.parcel.ids,.int .i64 x.parcel.kind,.int .i64 x.parcel.cls,.slice A2 x.parcel.fields.length c2,.slice A3 x.parcel.mail.length c3,.slice A4 x.parcel.watches.length c4,.int .i64 x.tm,.int .i64 x.ts,.int .i64 x.answer.machine,.int .i64 x.answer.owner,.int .u64 x.answer.number,.int .i64 x.answer.epoch,.bool x.answer.known,.bool x.answer.rooted,.int .i64 x.answer.last,.slice A5 x.answer.inset.length c5,.int .i64 x.claim.machine,.int .i64 x.claim.epoch,.slice A6 x.claim.stubs.length c6,.slice A7 x.claim.scions.length c7,.slice A8 x.claim.checks.length c8] 42):=⟨_,rfl⟩
 obtain⟨g,hg⟩:∃ g,g=w.heap.size:=⟨_,rfl⟩
 have hb0:Below w.heap.size w W:=by rw[hW];exact below_one _ _
 have hk0:Bk W g 42 #[.int .i64 x.kind,.int .u64 x.number,.int .i64 x.asker,.string x.name,.int .i64 x.ref.kind,.int .i64 x.ref.int,.int .i64 x.ref.owner,.int .u64 x.ref.number,.int .i64 x.ref.idm,.int .i64 x.ref.ids,.int .i64 x.ref.cls,.bool x.ref.weak,.int .i64 x.letter.idm,.int .i64 x.letter.ids,.string x.letter.meth,.slice A1 x.letter.args.length c1,.int .u64 x.parcel.number,.int .i64 x.parcel.idm,.int .i64 x.parcel.ids,.int .i64 x.parcel.kind,.int .i64 x.parcel.cls,.slice A2 x.parcel.fields.length c2,.slice A3 x.parcel.mail.length c3,.slice A4 x.parcel.watches.length c4,.int .i64 x.tm,.int .i64 x.ts,.int .i64 x.answer.machine,.int .i64 x.answer.owner,.int .u64 x.answer.number,.int .i64 x.answer.epoch,.bool x.answer.known,.bool x.answer.rooted,.int .i64 x.answer.last,.slice A5 x.answer.inset.length c5,.int .i64 x.claim.machine,.int .i64 x.claim.epoch,.slice A6 x.claim.stubs.length c6,.slice A7 x.claim.scions.length c7,.slice A8 x.claim.checks.length c8]:=by rw[hW,hg];exact Bk.new _ _ _
 have a4:W.cell? ⟨g,4,none⟩=some (.int .i64 x.ref.kind):=hk0.cell 4
 have a5:W.cell? ⟨g,5,none⟩=some (.int .i64 x.ref.int):=hk0.cell 5
 have a6:W.cell? ⟨g,6,none⟩=some (.int .i64 x.ref.owner):=hk0.cell 6
 have a7:W.cell? ⟨g,7,none⟩=some (.int .u64 x.ref.number):=hk0.cell 7
 have a8:W.cell? ⟨g,8,none⟩=some (.int .i64 x.ref.idm):=hk0.cell 8
 have a9:W.cell? ⟨g,9,none⟩=some (.int .i64 x.ref.ids):=hk0.cell 9
 have a10:W.cell? ⟨g,10,none⟩=some (.int .i64 x.ref.cls):=hk0.cell 10
 have a11:W.cell? ⟨g,11,none⟩=some (.bool x.ref.weak):=hk0.cell 11
 have HK0:=lh hk0
 have HB0:=lh hb0
 clear hb0 hk0 hR
 go_enter Tryz.func147,Tryz.ntmps147
 go_upto_region 1 with fail
 rw[← hW,← hg]
 clear hW hg
 have c0:=Pl_any (w:=W) x.ref
 cases h0:plV x.ref with
 | true =>
  rw[h0] at c0
  have H0:=lh h0
  clear h0
  go_wp2_with fail
  refine c0.mono ?_
  rintro e w1 ⟨rfl,hb1⟩
  have HB1:=lh (HB0.out.trans (hb1.mono HB0.out.size))
  have hk1:=HK0.out.below hb1 HK0.out.lt
  have fb4:w1.cell? ⟨g,4,none⟩=some (.int .i64 x.ref.kind):=hk1.cell 4
  have fb5:w1.cell? ⟨g,5,none⟩=some (.int .i64 x.ref.int):=hk1.cell 5
  have fb6:w1.cell? ⟨g,6,none⟩=some (.int .i64 x.ref.owner):=hk1.cell 6
  have fb7:w1.cell? ⟨g,7,none⟩=some (.int .u64 x.ref.number):=hk1.cell 7
  have fb8:w1.cell? ⟨g,8,none⟩=some (.int .i64 x.ref.idm):=hk1.cell 8
  have fb9:w1.cell? ⟨g,9,none⟩=some (.int .i64 x.ref.ids):=hk1.cell 9
  have fb10:w1.cell? ⟨g,10,none⟩=some (.int .i64 x.ref.cls):=hk1.cell 10
  have fb11:w1.cell? ⟨g,11,none⟩=some (.bool x.ref.weak):=hk1.cell 11
  have HK1:=lh hk1
  clear hb1 hk1 c0 a4 a5 a6 a7 a8 a9 a10 a11
  cases h1:x.ref.kind == 3 with
  | true =>
   have q1:(x.ref.kind == 3)=true:=h1
   have H1:=lh h1
   clear h1
   go_wp2_with fail
   go_ret
   refine⟨congrArg (fun b=>Ending.returned (Value.bool b)) ?_,HB1.out⟩
   rw[HR.out]
   simp[ok4,H0.out,H1.out]
  | false =>
   have q1:(x.ref.kind == 3)=false:=h1
   have H1:=lh h1
   clear h1
   go_wp2_with fail
   go_ret
   refine⟨congrArg (fun b=>Ending.returned (Value.bool b)) ?_,HB1.out⟩
   rw[HR.out]
   simp[ok4,H0.out,H1.out]
 | false =>
  rw[h0] at c0
  have H0:=lh h0
  clear h0
  go_wp2_with fail
  refine c0.mono ?_
  rintro e w1 ⟨rfl,hb1⟩
  have HB1:=lh (HB0.out.trans (hb1.mono HB0.out.size))
  clear hb1 c0 a4 a5 a6 a7 a8 a9 a10 a11
  go_wp2_with fail
  go_ret
  refine⟨congrArg (fun b=>Ending.returned (Value.bool b)) ?_,HB1.out⟩
  rw[HR.out]
  simp[ok4,H0.out]
set_option maxHeartbeats 4000000 in
theorem Ok8_any {w:World} (x:Ms) {A1 A2 A3 A4 A5 A6 A7 A8:Option Addr} {c1 c2 c3 c4 c5 c6 c7 c8:Nat} {M:Array Value} (hM:M=#[.int .i64 x.kind,.int .u64 x.number,.int .i64 x.asker,.string x.name,.int .i64 x.ref.kind,.int .i64 x.ref.int,.int .i64 x.ref.owner,.int .u64 x.ref.number,.int .i64 x.ref.idm,.int .i64 x.ref.ids,.int .i64 x.ref.cls,.bool x.ref.weak,.int .i64 x.letter.idm,.int .i64 x.letter.ids,.string x.letter.meth,.slice A1 x.letter.args.length c1,.int .u64 x.parcel.number,.int .i64 x.parcel.idm,.int .i64 x.parcel.ids,.int .i64 x.parcel.kind,.int .i64 x.parcel.cls,.slice A2 x.parcel.fields.length c2,.slice A3 x.parcel.mail.length c3,.slice A4 x.parcel.watches.length c4,.int .i64 x.tm,.int .i64 x.ts,.int .i64 x.answer.machine,.int .i64 x.answer.owner,.int .u64 x.answer.number,.int .i64 x.answer.epoch,.bool x.answer.known,.bool x.answer.rooted,.int .i64 x.answer.last,.slice A5 x.answer.inset.length c5,.int .i64 x.claim.machine,.int .i64 x.claim.epoch,.slice A6 x.claim.stubs.length c6,.slice A7 x.claim.scions.length c7,.slice A8 x.claim.checks.length c8]) :Calls Tryz.prog 88 #[.agg M] w (YesP w (ok8 x)):=by
 have HM:=lh hM
 clear hM
 obtain⟨R,hR⟩:∃ R,R=ok8 x:=⟨_,rfl⟩
 rw[← hR]
 have HR:=lh hR
 obtain⟨W,hW⟩:∃ W,W=w.alloc (.cells M 42):=⟨_,rfl⟩
 obtain⟨g,hg⟩:∃ g,g=w.heap.size:=⟨_,rfl⟩
 have hb0:Below w.heap.size w W:=by rw[hW];exact below_one _ _
 have hk0:Bk W g 42 M:=by rw[hW,hg];exact Bk.new _ _ _
 have a2:W.cell? ⟨g,2,none⟩=some (.int .i64 x.asker):=(hk0.cell 2).trans (by rw[HM.out];rfl)
 have HK0:=lh hk0
 have HB0:=lh hb0
 clear hb0 hk0 hR
 go_enter Tryz.func88,Tryz.ntmps88
 go_upto_region 1 with fail
 rw[← hW,← hg]
 clear hW hg
 refine wp_region_list ?_
 have hsz:M.toList.length=39:=by rw[Array.length_toList,HM.out];rfl
 refine wpList_load_mid rfl _ _ rfl g 0 rfl M.toList _ HK0.out.rng rfl rfl (by rw[hsz];rfl) ?_
 simp only[Array.toArray_toList]
 clear hsz
 have c0:=(show Calls Tryz.prog 89 #[.agg M] W (YesP W (trV x)) by rw[HM.out];exact Tr_any x)
 cases h0:trV x with
 | true =>
  rw[h0] at c0
  have H0:=lh h0
  clear h0
  go_wp2_with fail
  refine c0.mono ?_
  rintro e w1 ⟨rfl,hb1⟩
  have HB1:=lh (HB0.out.trans (hb1.mono HB0.out.size))
  have hk1:=HK0.out.below hb1 HK0.out.lt
  have fb2:w1.cell? ⟨g,2,none⟩=some (.int .i64 x.asker):=(hk1.cell 2).trans (by rw[HM.out];rfl)
  have HK1:=lh hk1
  clear hb1 hk1 c0 a2
  have c1:=Mach_any w1 x.asker
  cases h1:mchV x.asker with
  | true =>
   rw[h1] at c1
   have H1:=lh h1
   clear h1
   go_wp2_with fail
   refine c1.mono ?_
   rintro e w2 ⟨rfl,hb2⟩
   have HB2:=lh (HB1.out.trans (hb2.mono HB1.out.size))
   clear hb2 c1 fb2
   go_wp2_with fail
   go_ret
   refine⟨congrArg (fun b=>Ending.returned (Value.bool b)) ?_,HB2.out⟩
   rw[HR.out]
   simp[ok8,H0.out,H1.out]
  | false =>
   rw[h1] at c1
   have H1:=lh h1
   clear h1
   go_wp2_with fail
   refine c1.mono ?_
   rintro e w2 ⟨rfl,hb2⟩
   have HB2:=lh (HB1.out.trans (hb2.mono HB1.out.size))
   clear hb2 c1 fb2
   go_wp2_with fail
   go_ret
   refine⟨congrArg (fun b=>Ending.returned (Value.bool b)) ?_,HB2.out⟩
   rw[HR.out]
   simp[ok8,H0.out,H1.out]
 | false =>
  rw[h0] at c0
  have H0:=lh h0
  clear h0
  go_wp2_with fail
  refine c0.mono ?_
  rintro e w1 ⟨rfl,hb1⟩
  have HB1:=lh (HB0.out.trans (hb1.mono HB0.out.size))
  clear hb1 c0 a2
  go_wp2_with fail
  go_ret
  refine⟨congrArg (fun b=>Ending.returned (Value.bool b)) ?_,HB1.out⟩
  rw[HR.out]
  simp[ok8,H0.out]
set_option maxHeartbeats 4000000 in
theorem Ok9_any {w:World} (x:Ms) {A1 A2 A3 A4 A5 A6 A7 A8:Option Addr} {c1 c2 c3 c4 c5 c6 c7 c8:Nat} {M:Array Value} (hM:M=#[.int .i64 x.kind,.int .u64 x.number,.int .i64 x.asker,.string x.name,.int .i64 x.ref.kind,.int .i64 x.ref.int,.int .i64 x.ref.owner,.int .u64 x.ref.number,.int .i64 x.ref.idm,.int .i64 x.ref.ids,.int .i64 x.ref.cls,.bool x.ref.weak,.int .i64 x.letter.idm,.int .i64 x.letter.ids,.string x.letter.meth,.slice A1 x.letter.args.length c1,.int .u64 x.parcel.number,.int .i64 x.parcel.idm,.int .i64 x.parcel.ids,.int .i64 x.parcel.kind,.int .i64 x.parcel.cls,.slice A2 x.parcel.fields.length c2,.slice A3 x.parcel.mail.length c3,.slice A4 x.parcel.watches.length c4,.int .i64 x.tm,.int .i64 x.ts,.int .i64 x.answer.machine,.int .i64 x.answer.owner,.int .u64 x.answer.number,.int .i64 x.answer.epoch,.bool x.answer.known,.bool x.answer.rooted,.int .i64 x.answer.last,.slice A5 x.answer.inset.length c5,.int .i64 x.claim.machine,.int .i64 x.claim.epoch,.slice A6 x.claim.stubs.length c6,.slice A7 x.claim.scions.length c7,.slice A8 x.claim.checks.length c8]) (h5:LsI (flat inC) 99 3 w A5 c5 x.answer.inset):Calls Tryz.prog 93 #[.agg M] w (YesP w (ok9 x)):=by
 have HM:=lh hM
 clear hM
 obtain⟨R,hR⟩:∃ R,R=ok9 x:=⟨_,rfl⟩
 rw[← hR]
 have HR:=lh hR
 obtain⟨W,hW⟩:∃ W,W=w.alloc (.cells M 42):=⟨_,rfl⟩
 obtain⟨g,hg⟩:∃ g,g=w.heap.size:=⟨_,rfl⟩
 have hb0:Below w.heap.size w W:=by rw[hW];exact below_one _ _
 have hk0:Bk W g 42 M:=by rw[hW,hg];exact Bk.new _ _ _
 have Mh50:Hid (LsI (flat inC) 99 3 W A5 c5 x.answer.inset):=lh (h5.below (flat_ru inC) (flat_rk inC) hb0)
 have a26:W.cell? ⟨g,26,none⟩=some (.int .i64 x.answer.machine):=(hk0.cell 26).trans (by rw[HM.out];rfl)
 have a27:W.cell? ⟨g,27,none⟩=some (.int .i64 x.answer.owner):=(hk0.cell 27).trans (by rw[HM.out];rfl)
 have a28:W.cell? ⟨g,28,none⟩=some (.int .u64 x.answer.number):=(hk0.cell 28).trans (by rw[HM.out];rfl)
 have a29:W.cell? ⟨g,29,none⟩=some (.int .i64 x.answer.epoch):=(hk0.cell 29).trans (by rw[HM.out];rfl)
 have a30:W.cell? ⟨g,30,none⟩=some (.bool x.answer.known):=(hk0.cell 30).trans (by rw[HM.out];rfl)
 have a31:W.cell? ⟨g,31,none⟩=some (.bool x.answer.rooted):=(hk0.cell 31).trans (by rw[HM.out];rfl)
 have a32:W.cell? ⟨g,32,none⟩=some (.int .i64 x.answer.last):=(hk0.cell 32).trans (by rw[HM.out];rfl)
 have a33:W.cell? ⟨g,33,none⟩=some (.slice A5 x.answer.inset.length c5):=(hk0.cell 33).trans (by rw[HM.out];rfl)
 have HK0:=lh hk0
 have HB0:=lh hb0
 clear hb0 hk0 hR h5
 go_enter Tryz.func93,Tryz.ntmps93
 go_upto_region 1 with fail
 rw[← hW,← hg]
 clear hW hg
 refine wp_region_list ?_
 have hsz:M.toList.length=39:=by rw[Array.length_toList,HM.out];rfl
 refine wpList_load_mid rfl _ _ rfl g 0 rfl M.toList _ HK0.out.rng rfl rfl (by rw[hsz];rfl) ?_
 simp only[Array.toArray_toList]
 clear hsz
 have c0:=(show Calls Tryz.prog 89 #[.agg M] W (YesP W (trV x)) by rw[HM.out];exact Tr_any x)
 cases h0:trV x with
 | true =>
  rw[h0] at c0
  have H0:=lh h0
  clear h0
  go_wp2_with fail
  refine c0.mono ?_
  rintro e w1 ⟨rfl,hb1⟩
  have HB1:=lh (HB0.out.trans (hb1.mono HB0.out.size))
  have hk1:=HK0.out.below hb1 HK0.out.lt
  have Mh51:Hid (LsI (flat inC) 99 3 w1 A5 c5 x.answer.inset):=lh (Mh50.out.below (flat_ru inC) (flat_rk inC) hb1)
  have fb26:w1.cell? ⟨g,26,none⟩=some (.int .i64 x.answer.machine):=(hk1.cell 26).trans (by rw[HM.out];rfl)
  have fb27:w1.cell? ⟨g,27,none⟩=some (.int .i64 x.answer.owner):=(hk1.cell 27).trans (by rw[HM.out];rfl)
  have fb28:w1.cell? ⟨g,28,none⟩=some (.int .u64 x.answer.number):=(hk1.cell 28).trans (by rw[HM.out];rfl)
  have fb29:w1.cell? ⟨g,29,none⟩=some (.int .i64 x.answer.epoch):=(hk1.cell 29).trans (by rw[HM.out];rfl)
  have fb30:w1.cell? ⟨g,30,none⟩=some (.bool x.answer.known):=(hk1.cell 30).trans (by rw[HM.out];rfl)
  have fb31:w1.cell? ⟨g,31,none⟩=some (.bool x.answer.rooted):=(hk1.cell 31).trans (by rw[HM.out];rfl)
  have fb32:w1.cell? ⟨g,32,none⟩=some (.int .i64 x.answer.last):=(hk1.cell 32).trans (by rw[HM.out];rfl)
  have fb33:w1.cell? ⟨g,33,none⟩=some (.slice A5 x.answer.inset.length c5):=(hk1.cell 33).trans (by rw[HM.out];rfl)
  have HK1:=lh hk1
  clear hb1 hk1 c0 a26 a27 a28 a29 a30 a31 a32 a33
  have c1:=An_any x.answer Mh51.out
  cases h1:anV x.answer with
  | true =>
   rw[h1] at c1
   have H1:=lh h1
   clear h1
   go_wp2_with fail
   refine c1.mono ?_
   rintro e w2 ⟨rfl,hb2⟩
   have HB2:=lh (HB1.out.trans (hb2.mono HB1.out.size))
   clear hb2 c1 fb26 fb27 fb28 fb29 fb30 fb31 fb32 fb33
   go_wp2_with fail
   go_ret
   refine⟨congrArg (fun b=>Ending.returned (Value.bool b)) ?_,HB2.out⟩
   rw[HR.out]
   simp[ok9,H0.out,H1.out]
  | false =>
   rw[h1] at c1
   have H1:=lh h1
   clear h1
   go_wp2_with fail
   refine c1.mono ?_
   rintro e w2 ⟨rfl,hb2⟩
   have HB2:=lh (HB1.out.trans (hb2.mono HB1.out.size))
   clear hb2 c1 fb26 fb27 fb28 fb29 fb30 fb31 fb32 fb33
   go_wp2_with fail
   go_ret
   refine⟨congrArg (fun b=>Ending.returned (Value.bool b)) ?_,HB2.out⟩
   rw[HR.out]
   simp[ok9,H0.out,H1.out]
 | false =>
  rw[h0] at c0
  have H0:=lh h0
  clear h0
  go_wp2_with fail
  refine c0.mono ?_
  rintro e w1 ⟨rfl,hb1⟩
  have HB1:=lh (HB0.out.trans (hb1.mono HB0.out.size))
  clear hb1 c0 a26 a27 a28 a29 a30 a31 a32 a33
  go_wp2_with fail
  go_ret
  refine⟨congrArg (fun b=>Ending.returned (Value.bool b)) ?_,HB1.out⟩
  rw[HR.out]
  simp[ok9,H0.out]
set_option maxHeartbeats 4000000 in
theorem Ok10_any {w:World} (x:Ms) {A1 A2 A3 A4 A5 A6 A7 A8:Option Addr} {c1 c2 c3 c4 c5 c6 c7 c8:Nat} {M:Array Value} (hM:M=#[.int .i64 x.kind,.int .u64 x.number,.int .i64 x.asker,.string x.name,.int .i64 x.ref.kind,.int .i64 x.ref.int,.int .i64 x.ref.owner,.int .u64 x.ref.number,.int .i64 x.ref.idm,.int .i64 x.ref.ids,.int .i64 x.ref.cls,.bool x.ref.weak,.int .i64 x.letter.idm,.int .i64 x.letter.ids,.string x.letter.meth,.slice A1 x.letter.args.length c1,.int .u64 x.parcel.number,.int .i64 x.parcel.idm,.int .i64 x.parcel.ids,.int .i64 x.parcel.kind,.int .i64 x.parcel.cls,.slice A2 x.parcel.fields.length c2,.slice A3 x.parcel.mail.length c3,.slice A4 x.parcel.watches.length c4,.int .i64 x.tm,.int .i64 x.ts,.int .i64 x.answer.machine,.int .i64 x.answer.owner,.int .u64 x.answer.number,.int .i64 x.answer.epoch,.bool x.answer.known,.bool x.answer.rooted,.int .i64 x.answer.last,.slice A5 x.answer.inset.length c5,.int .i64 x.claim.machine,.int .i64 x.claim.epoch,.slice A6 x.claim.stubs.length c6,.slice A7 x.claim.scions.length c7,.slice A8 x.claim.checks.length c8]) (h6:LsI (flat ndC) 136 3 w A6 c6 x.claim.stubs) (h7:LsI (flat ndC) 136 3 w A7 c7 x.claim.scions) (h8:LsI (flat ndC) 136 3 w A8 c8 x.claim.checks):Calls Tryz.prog 97 #[.agg M] w (YesP w (ok10 x)):=by
 have HM:=lh hM
 clear hM
 obtain⟨R,hR⟩:∃ R,R=ok10 x:=⟨_,rfl⟩
 rw[← hR]
 have HR:=lh hR
 obtain⟨W,hW⟩:∃ W,W=w.alloc (.cells M 42):=⟨_,rfl⟩
 obtain⟨g,hg⟩:∃ g,g=w.heap.size:=⟨_,rfl⟩
 have hb0:Below w.heap.size w W:=by rw[hW];exact below_one _ _
 have hk0:Bk W g 42 M:=by rw[hW,hg];exact Bk.new _ _ _
 have Mh60:Hid (LsI (flat ndC) 136 3 W A6 c6 x.claim.stubs):=lh (h6.below (flat_ru ndC) (flat_rk ndC) hb0)
 have Mh70:Hid (LsI (flat ndC) 136 3 W A7 c7 x.claim.scions):=lh (h7.below (flat_ru ndC) (flat_rk ndC) hb0)
 have Mh80:Hid (LsI (flat ndC) 136 3 W A8 c8 x.claim.checks):=lh (h8.below (flat_ru ndC) (flat_rk ndC) hb0)
 have a34:W.cell? ⟨g,34,none⟩=some (.int .i64 x.claim.machine):=(hk0.cell 34).trans (by rw[HM.out];rfl)
 have a35:W.cell? ⟨g,35,none⟩=some (.int .i64 x.claim.epoch):=(hk0.cell 35).trans (by rw[HM.out];rfl)
 have a36:W.cell? ⟨g,36,none⟩=some (.slice A6 x.claim.stubs.length c6):=(hk0.cell 36).trans (by rw[HM.out];rfl)
 have a37:W.cell? ⟨g,37,none⟩=some (.slice A7 x.claim.scions.length c7):=(hk0.cell 37).trans (by rw[HM.out];rfl)
 have a38:W.cell? ⟨g,38,none⟩=some (.slice A8 x.claim.checks.length c8):=(hk0.cell 38).trans (by rw[HM.out];rfl)
 have HK0:=lh hk0
 have HB0:=lh hb0
 clear hb0 hk0 hR h6 h7 h8
 go_enter Tryz.func97,Tryz.ntmps97
 go_upto_region 1 with fail
 rw[← hW,← hg]
 clear hW hg
 refine wp_region_list ?_
 have hsz:M.toList.length=39:=by rw[Array.length_toList,HM.out];rfl
 refine wpList_load_mid rfl _ _ rfl g 0 rfl M.toList _ HK0.out.rng rfl rfl (by rw[hsz];rfl) ?_
 simp only[Array.toArray_toList]
 clear hsz
 have c0:=(show Calls Tryz.prog 89 #[.agg M] W (YesP W (trV x)) by rw[HM.out];exact Tr_any x)
 cases h0:trV x with
 | true =>
  rw[h0] at c0
  have H0:=lh h0
  clear h0
  go_wp2_with fail
  refine c0.mono ?_
  rintro e w1 ⟨rfl,hb1⟩
  have HB1:=lh (HB0.out.trans (hb1.mono HB0.out.size))
  have hk1:=HK0.out.below hb1 HK0.out.lt
  have Mh61:Hid (LsI (flat ndC) 136 3 w1 A6 c6 x.claim.stubs):=lh (Mh60.out.below (flat_ru ndC) (flat_rk ndC) hb1)
  have Mh71:Hid (LsI (flat ndC) 136 3 w1 A7 c7 x.claim.scions):=lh (Mh70.out.below (flat_ru ndC) (flat_rk ndC) hb1)
  have Mh81:Hid (LsI (flat ndC) 136 3 w1 A8 c8 x.claim.checks):=lh (Mh80.out.below (flat_ru ndC) (flat_rk ndC) hb1)
  have fb34:w1.cell? ⟨g,34,none⟩=some (.int .i64 x.claim.machine):=(hk1.cell 34).trans (by rw[HM.out];rfl)
  have fb35:w1.cell? ⟨g,35,none⟩=some (.int .i64 x.claim.epoch):=(hk1.cell 35).trans (by rw[HM.out];rfl)
  have fb36:w1.cell? ⟨g,36,none⟩=some (.slice A6 x.claim.stubs.length c6):=(hk1.cell 36).trans (by rw[HM.out];rfl)
  have fb37:w1.cell? ⟨g,37,none⟩=some (.slice A7 x.claim.scions.length c7):=(hk1.cell 37).trans (by rw[HM.out];rfl)
  have fb38:w1.cell? ⟨g,38,none⟩=some (.slice A8 x.claim.checks.length c8):=(hk1.cell 38).trans (by rw[HM.out];rfl)
  have HK1:=lh hk1
  clear hb1 hk1 c0 a34 a35 a36 a37 a38
  have c1:=Cl_any x.claim Mh61.out Mh71.out Mh81.out
  cases h1:clV x.claim with
  | true =>
   rw[h1] at c1
   have H1:=lh h1
   clear h1
   go_wp2_with fail
   refine c1.mono ?_
   rintro e w2 ⟨rfl,hb2⟩
   have HB2:=lh (HB1.out.trans (hb2.mono HB1.out.size))
   clear hb2 c1 fb34 fb35 fb36 fb37 fb38
   go_wp2_with fail
   go_ret
   refine⟨congrArg (fun b=>Ending.returned (Value.bool b)) ?_,HB2.out⟩
   rw[HR.out]
   simp[ok10,H0.out,H1.out]
  | false =>
   rw[h1] at c1
   have H1:=lh h1
   clear h1
   go_wp2_with fail
   refine c1.mono ?_
   rintro e w2 ⟨rfl,hb2⟩
   have HB2:=lh (HB1.out.trans (hb2.mono HB1.out.size))
   clear hb2 c1 fb34 fb35 fb36 fb37 fb38
   go_wp2_with fail
   go_ret
   refine⟨congrArg (fun b=>Ending.returned (Value.bool b)) ?_,HB2.out⟩
   rw[HR.out]
   simp[ok10,H0.out,H1.out]
 | false =>
  rw[h0] at c0
  have H0:=lh h0
  clear h0
  go_wp2_with fail
  refine c0.mono ?_
  rintro e w1 ⟨rfl,hb1⟩
  have HB1:=lh (HB0.out.trans (hb1.mono HB0.out.size))
  clear hb1 c0 a34 a35 a36 a37 a38
  go_wp2_with fail
  go_ret
  refine⟨congrArg (fun b=>Ending.returned (Value.bool b)) ?_,HB1.out⟩
  rw[HR.out]
  simp[ok10,H0.out]
set_option maxHeartbeats 4000000 in
theorem Ok17_any {w:World} (x:Ms) {A1 A2 A3 A4 A5 A6 A7 A8:Option Addr} {c1 c2 c3 c4 c5 c6 c7 c8:Nat} :Calls Tryz.prog 101 #[.agg #[.int .i64 x.kind,.int .u64 x.number,.int .i64 x.asker,.string x.name,.int .i64 x.ref.kind,.int .i64 x.ref.int,.int .i64 x.ref.owner,.int .u64 x.ref.number,.int .i64 x.ref.idm,.int .i64 x.ref.ids,.int .i64 x.ref.cls,.bool x.ref.weak,.int .i64 x.letter.idm,.int .i64 x.letter.ids,.string x.letter.meth,.slice A1 x.letter.args.length c1,.int .u64 x.parcel.number,.int .i64 x.parcel.idm,.int .i64 x.parcel.ids,.int .i64 x.parcel.kind,.int .i64 x.parcel.cls,.slice A2 x.parcel.fields.length c2,.slice A3 x.parcel.mail.length c3,.slice A4 x.parcel.watches.length c4,.int .i64 x.tm,.int .i64 x.ts,.int .i64 x.answer.machine,.int .i64 x.answer.owner,.int .u64 x.answer.number,.int .i64 x.answer.epoch,.bool x.answer.known,.bool x.answer.rooted,.int .i64 x.answer.last,.slice A5 x.answer.inset.length c5,.int .i64 x.claim.machine,.int .i64 x.claim.epoch,.slice A6 x.claim.stubs.length c6,.slice A7 x.claim.scions.length c7,.slice A8 x.claim.checks.length c8]] w (YesP w (ok17 x)):=by
 obtain⟨R,hR⟩:∃ R,R=ok17 x:=⟨_,rfl⟩
 rw[← hR]
 have HR:=lh hR
 obtain⟨W,hW⟩:∃ W,W=w.alloc (.cells #[.int .i64 x.kind,.int .u64 x.number,.int .i64 x.asker,.string x.name,.int .i64 x.ref.kind,.int .i64 x.ref.int,.int .i64 x.ref.owner,.int .u64 x.ref.number,.int .i64 x.ref.idm,.int .i64 x.ref.ids,.int .i64 x.ref.cls,.bool x.ref.weak,.int .i64 x.letter.idm,.int .i64 x.letter.ids,.string x.letter.meth,.slice A1 x.letter.args.length c1,.int .u64 x.parcel.number,.int .i64 x.parcel.idm,.int .i64 x.parcel.ids,.int .i64 x.parcel.kind,.int .i64 x.parcel.cls,.slice A2 x.parcel.fields.length c2,.slice A3 x.parcel.mail.length c3,.slice A4 x.parcel.watches.length c4,.int .i64 x.tm,.int .i64 x.ts,.int .i64 x.answer.machine,.int .i64 x.answer.owner,.int .u64 x.answer.number,.int .i64 x.answer.epoch,.bool x.answer.known,.bool x.answer.rooted,.int .i64 x.answer.last,.slice A5 x.answer.inset.length c5,.int .i64 x.claim.machine,.int .i64 x.claim.epoch,.slice A6 x.claim.stubs.length c6,.slice A7 x.claim.scions.length c7,.slice A8 x.claim.checks.length c8] 42):=⟨_,rfl⟩
 obtain⟨g,hg⟩:∃ g,g=w.heap.size:=⟨_,rfl⟩
 have hb0:Below w.heap.size w W:=by rw[hW];exact below_one _ _
 have hk0:Bk W g 42 #[.int .i64 x.kind,.int .u64 x.number,.int .i64 x.asker,.string x.name,.int .i64 x.ref.kind,.int .i64 x.ref.int,.int .i64 x.ref.owner,.int .u64 x.ref.number,.int .i64 x.ref.idm,.int .i64 x.ref.ids,.int .i64 x.ref.cls,.bool x.ref.weak,.int .i64 x.letter.idm,.int .i64 x.letter.ids,.string x.letter.meth,.slice A1 x.letter.args.length c1,.int .u64 x.parcel.number,.int .i64 x.parcel.idm,.int .i64 x.parcel.ids,.int .i64 x.parcel.kind,.int .i64 x.parcel.cls,.slice A2 x.parcel.fields.length c2,.slice A3 x.parcel.mail.length c3,.slice A4 x.parcel.watches.length c4,.int .i64 x.tm,.int .i64 x.ts,.int .i64 x.answer.machine,.int .i64 x.answer.owner,.int .u64 x.answer.number,.int .i64 x.answer.epoch,.bool x.answer.known,.bool x.answer.rooted,.int .i64 x.answer.last,.slice A5 x.answer.inset.length c5,.int .i64 x.claim.machine,.int .i64 x.claim.epoch,.slice A6 x.claim.stubs.length c6,.slice A7 x.claim.scions.length c7,.slice A8 x.claim.checks.length c8]:=by rw[hW,hg];exact Bk.new _ _ _
 have a3:W.cell? ⟨g,3,none⟩=some (.string x.name):=hk0.cell 3
 have a4:W.cell? ⟨g,4,none⟩=some (.int .i64 x.ref.kind):=hk0.cell 4
 have a5:W.cell? ⟨g,5,none⟩=some (.int .i64 x.ref.int):=hk0.cell 5
 have a6:W.cell? ⟨g,6,none⟩=some (.int .i64 x.ref.owner):=hk0.cell 6
 have a7:W.cell? ⟨g,7,none⟩=some (.int .u64 x.ref.number):=hk0.cell 7
 have a8:W.cell? ⟨g,8,none⟩=some (.int .i64 x.ref.idm):=hk0.cell 8
 have a9:W.cell? ⟨g,9,none⟩=some (.int .i64 x.ref.ids):=hk0.cell 9
 have a10:W.cell? ⟨g,10,none⟩=some (.int .i64 x.ref.cls):=hk0.cell 10
 have a11:W.cell? ⟨g,11,none⟩=some (.bool x.ref.weak):=hk0.cell 11
 have HK0:=lh hk0
 have HB0:=lh hb0
 clear hb0 hk0 hR
 go_enter Tryz.func101,Tryz.ntmps101
 go_upto_region 1 with fail
 rw[← hW,← hg]
 clear hW hg
 have c0:=Nam_any W x.name
 cases h0:nmV x.name with
 | true =>
  rw[h0] at c0
  have H0:=lh h0
  clear h0
  go_wp2_with fail
  refine c0.mono ?_
  rintro e w1 ⟨rfl,hb1⟩
  have HB1:=lh (HB0.out.trans (hb1.mono HB0.out.size))
  have hk1:=HK0.out.below hb1 HK0.out.lt
  have fb3:w1.cell? ⟨g,3,none⟩=some (.string x.name):=hk1.cell 3
  have fb4:w1.cell? ⟨g,4,none⟩=some (.int .i64 x.ref.kind):=hk1.cell 4
  have fb5:w1.cell? ⟨g,5,none⟩=some (.int .i64 x.ref.int):=hk1.cell 5
  have fb6:w1.cell? ⟨g,6,none⟩=some (.int .i64 x.ref.owner):=hk1.cell 6
  have fb7:w1.cell? ⟨g,7,none⟩=some (.int .u64 x.ref.number):=hk1.cell 7
  have fb8:w1.cell? ⟨g,8,none⟩=some (.int .i64 x.ref.idm):=hk1.cell 8
  have fb9:w1.cell? ⟨g,9,none⟩=some (.int .i64 x.ref.ids):=hk1.cell 9
  have fb10:w1.cell? ⟨g,10,none⟩=some (.int .i64 x.ref.cls):=hk1.cell 10
  have fb11:w1.cell? ⟨g,11,none⟩=some (.bool x.ref.weak):=hk1.cell 11
  have HK1:=lh hk1
  clear hb1 hk1 c0 a3 a4 a5 a6 a7 a8 a9 a10 a11
  have c1:=Pl_any (w:=w1) x.ref
  cases h1:plV x.ref with
  | true =>
   rw[h1] at c1
   have H1:=lh h1
   clear h1
   go_wp2_with fail
   refine c1.mono ?_
   rintro e w2 ⟨rfl,hb2⟩
   have HB2:=lh (HB1.out.trans (hb2.mono HB1.out.size))
   have hk2:=HK1.out.below hb2 HK1.out.lt
   have fc3:w2.cell? ⟨g,3,none⟩=some (.string x.name):=hk2.cell 3
   have fc4:w2.cell? ⟨g,4,none⟩=some (.int .i64 x.ref.kind):=hk2.cell 4
   have fc5:w2.cell? ⟨g,5,none⟩=some (.int .i64 x.ref.int):=hk2.cell 5
   have fc6:w2.cell? ⟨g,6,none⟩=some (.int .i64 x.ref.owner):=hk2.cell 6
   have fc7:w2.cell? ⟨g,7,none⟩=some (.int .u64 x.ref.number):=hk2.cell 7
   have fc8:w2.cell? ⟨g,8,none⟩=some (.int .i64 x.ref.idm):=hk2.cell 8
   have fc9:w2.cell? ⟨g,9,none⟩=some (.int .i64 x.ref.ids):=hk2.cell 9
   have fc10:w2.cell? ⟨g,10,none⟩=some (.int .i64 x.ref.cls):=hk2.cell 10
   have fc11:w2.cell? ⟨g,11,none⟩=some (.bool x.ref.weak):=hk2.cell 11
   have HK2:=lh hk2
   clear hb2 hk2 c1 fb3 fb4 fb5 fb6 fb7 fb8 fb9 fb10 fb11
   cases h2:decide (x.ref.kind ≥ 2) with
   | true =>
    have q2:decide (x.ref.kind ≥ 2)=true:=h2
    have H2:=lh h2
    clear h2
    go_wp2_with fail
    go_ret
    refine⟨congrArg (fun b=>Ending.returned (Value.bool b)) ?_,HB2.out⟩
    rw[HR.out]
    simp[ok17,H0.out,H1.out,H2.out]
   | false =>
    have q2:decide (x.ref.kind ≥ 2)=false:=h2
    have H2:=lh h2
    clear h2
    go_wp2_with fail
    go_ret
    refine⟨congrArg (fun b=>Ending.returned (Value.bool b)) ?_,HB2.out⟩
    rw[HR.out]
    simp[ok17,H0.out,H1.out,H2.out]
  | false =>
   rw[h1] at c1
   have H1:=lh h1
   clear h1
   go_wp2_with fail
   refine c1.mono ?_
   rintro e w2 ⟨rfl,hb2⟩
   have HB2:=lh (HB1.out.trans (hb2.mono HB1.out.size))
   clear hb2 c1 fb3 fb4 fb5 fb6 fb7 fb8 fb9 fb10 fb11
   go_wp2_with fail
   go_ret
   refine⟨congrArg (fun b=>Ending.returned (Value.bool b)) ?_,HB2.out⟩
   rw[HR.out]
   simp[ok17,H0.out,H1.out]
 | false =>
  rw[h0] at c0
  have H0:=lh h0
  clear h0
  go_wp2_with fail
  refine c0.mono ?_
  rintro e w1 ⟨rfl,hb1⟩
  have HB1:=lh (HB0.out.trans (hb1.mono HB0.out.size))
  clear hb1 c0 a3 a4 a5 a6 a7 a8 a9 a10 a11
  go_wp2_with fail
  go_ret
  refine⟨congrArg (fun b=>Ending.returned (Value.bool b)) ?_,HB1.out⟩
  rw[HR.out]
  simp[ok17,H0.out]
theorem Ok5_any (w:World) (v:Array Value):Calls Tryz.prog 85 #[.agg v] w (YesP w true):=by
 go_enter Tryz.func85,Tryz.ntmps85
 go_wp2_with fail
 go_ret
 exact⟨rfl,below_one _ _⟩
theorem Ok15_any (w:World) (v:Array Value):Calls Tryz.prog 152 #[.agg v] w (YesP w true):=by
 go_enter Tryz.func152,Tryz.ntmps152
 go_wp2_with fail
 go_ret
 exact⟨rfl,below_one _ _⟩
def okV (k:Nat) (x:Ms):Bool :=
 match k with
 | 0=>ltV x.letter
 | 1=>pcV x.parcel
 | 2 | 3 | 6=>mchV x.asker
 | 4 | 7=>ok4 x
 | 8=>ok8 x
 | 9=>ok9 x
 | 10=>ok10 x
 | 11 | 12 | 13 | 14=>trV x
 | 17=>ok17 x
 | _=>true
theorem Ok_any {w:World} {x:Ms} {r:List Value} (h:MsI w x r) {k:Nat} (hk:k < 18):Calls Tryz.prog (kB k) #[.agg r.toArray] w (YesP w (okV k x)):=by
 obtain⟨A1,c1,A2,c2,A3,c3,A4,c4,A5,c5,A6,c6,A7,c7,A8,c8,rfl,h1,h2,h3,h4,h5,h6,h7,h8⟩:=h
 rcases (show k=0 ∨ k=1 ∨ k=2 ∨ k=3 ∨ k=4 ∨ k=5 ∨ k=6 ∨ k=7 ∨ k=8 ∨ k=9 ∨ k=10 ∨ k=11 ∨ k=12 ∨ k=13 ∨ k=14 ∨ k=15 ∨ k=16 ∨ k=17 by omega) with rfl | rfl | rfl | rfl | rfl | rfl | rfl | rfl | rfl | rfl | rfl | rfl | rfl | rfl | rfl | rfl | rfl | rfl
 ·exact Ok0_any x h1
 ·exact Ok1_any x h2 h3 h4
 ·exact OkA_any x
 ·exact OkA_any x
 ·exact Ok4_any x
 ·exact Ok5_any w _
 ·exact OkA_any x
 ·exact Ok4_any x
 ·exact Ok8_any x rfl
 ·exact Ok9_any x rfl h5
 ·exact Ok10_any x rfl h6 h7 h8
 ·exact Tr_any x
 ·exact Tr_any x
 ·exact Tr_any x
 ·exact Tr_any x
 ·exact Ok15_any w _
 ·exact Ok15_any w _
 ·exact Ok17_any x
end
end Go.Proofs.YtmbnlccafcfbeaaGreatDoor
