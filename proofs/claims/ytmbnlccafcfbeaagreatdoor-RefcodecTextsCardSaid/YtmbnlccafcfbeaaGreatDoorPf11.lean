/- Parts of the proof: RcV, RcW, RcX. -/
import Derived.Laws.StructEq
import Derived.Test.YtmbnlccafcfbeaaGreatDoorPfA
import Derived.Test.YtmbnlccafcfbeaaGreatDoorPf10
set_option linter.unusedVariables false
set_option linter.unusedSimpArgs false
set_option linter.unusedSectionVars false
set_option maxRecDepth 100000
set_option maxHeartbeats 64000000
namespace Go.Proofs.YtmbnlccafcfbeaaGreatDoor
section
open Go.RowKit
attribute [local go_sem] Oper.semAt_some
def qe7 (w:World) (b:Bool) (e:Ending) (w':World):Prop:=e=.returned (.bool b)∧bw w w'
def ql1 (n:Int):Bool:=decide (1≤n∧n≤8)
def intV (n:Int):Bool:=decide (-2305843009213693952≤n∧n≤2305843009213693951)
def idV (a b:Int):Bool:=decide (1≤a∧a≤8∧1≤b∧b≤1099511627775)
def nmV (s:ByteArray):Bool:=decide (1≤s.size∧s.size≤31)
def rfV (x:Rf):Bool :=
 if x.kind=0 then decide (x=Rf.zero)
 else if x.kind=1 then intV x.int && decide (x=⟨1,x.int,0,0,0,0,0,false⟩)
 else if x.kind=2 then decide (x=⟨2,0,0,x.number,0,0,0,x.weak⟩)
 else if x.kind=3 then ql1 x.owner && idV x.idm x.ids && decide (0≤x.cls) && decide (x.cls≤60) && decide (x.int=0)
 else false
theorem qa2 (w:World) (o:Obj):bw w (w.alloc o):=(Below.refl _ _).alloc (Nat.le_refl _) _
theorem qi2 (w:World) (n:Int):Calls Tryz.prog 66 #[iv n] w (qe7 w (ql1 n)):=by
 obtain⟨R,hR⟩:∃ R,R=ql1 n:=⟨_,rfl⟩
 rw[← hR]
 by_cases h2:1≤n
 ·have q2:decide (n ≥ 1)=true:=decide_eq_true (by omega)
  by_cases h1:n≤8
  ·have q1:decide (n≤8)=true:=decide_eq_true (by omega);have HE:Hid (R=true):=lh (by rw[hR];exact decide_eq_true (by omega));clear hR h1 h2
   go_enter Tryz.func66,Tryz.ntmps66
   go_wp2_with fail
   go_ret;rw[HE.o];exact⟨rfl,Below.refl _ _⟩
  ·have q1:decide (n≤8)=false:=decide_eq_false (by omega);have HE:Hid (R=false):=lh (by rw[hR];exact decide_eq_false (by omega));clear hR
   go_enter Tryz.func66,Tryz.ntmps66
   go_wp2_with fail
   go_ret;rw[HE.o];exact⟨rfl,Below.refl _ _⟩
 ·have q2:decide (n ≥ 1)=false:=decide_eq_false (by omega);have HE:Hid (R=false):=lh (by rw[hR];exact decide_eq_false (by omega));clear hR
  go_enter Tryz.func66,Tryz.ntmps66
  go_wp2_with fail
  go_ret;rw[HE.o];exact⟨rfl,Below.refl _ _⟩
theorem qe8 (w:World) (n:Int):Calls Tryz.prog 44 #[iv n] w (qe7 w (ql1 n)):=by
 obtain⟨R,hR⟩:∃ R,R=ql1 n:=⟨_,rfl⟩
 rw[← hR]
 by_cases h2:1≤n
 ·have q2:decide (n ≥ 1)=true:=decide_eq_true (by omega)
  by_cases h1:n≤8
  ·have q1:decide (n≤8)=true:=decide_eq_true (by omega);have HE:Hid (R=true):=lh (by rw[hR];exact decide_eq_true (by omega));clear hR h1 h2
   go_enter Tryz.func44,Tryz.ntmps44
   go_wp2_with fail
   go_ret;rw[HE.o];exact⟨rfl,Below.refl _ _⟩
  ·have q1:decide (n≤8)=false:=decide_eq_false (by omega);have HE:Hid (R=false):=lh (by rw[hR];exact decide_eq_false (by omega));clear hR
   go_enter Tryz.func44,Tryz.ntmps44
   go_wp2_with fail
   go_ret;rw[HE.o];exact⟨rfl,Below.refl _ _⟩
 ·have q2:decide (n ≥ 1)=false:=decide_eq_false (by omega);have HE:Hid (R=false):=lh (by rw[hR];exact decide_eq_false (by omega));clear hR
  go_enter Tryz.func44,Tryz.ntmps44
  go_wp2_with fail
  go_ret;rw[HE.o];exact⟨rfl,Below.refl _ _⟩
theorem Intg_any (w:World) (n:Int):Calls Tryz.prog 65 #[iv n] w (qe7 w (intV n)):=by
 obtain⟨R,hR⟩:∃ R,R=intV n:=⟨_,rfl⟩
 rw[← hR]
 by_cases h2:(-2305843009213693952)≤n
 ·have q2:decide (n ≥ (-2305843009213693952))=true:=decide_eq_true (by omega)
  by_cases h1:n≤2305843009213693951
  ·have q1:decide (n≤2305843009213693951)=true:=decide_eq_true (by omega);have HE:Hid (R=true):=lh (by rw[hR];exact decide_eq_true (by omega));clear hR h1 h2
   go_enter Tryz.func65,Tryz.ntmps65
   go_wp2_with fail
   go_ret;rw[HE.o];exact⟨rfl,Below.refl _ _⟩
  ·have q1:decide (n≤2305843009213693951)=false:=decide_eq_false (by omega);have HE:Hid (R=false):=lh (by rw[hR];exact decide_eq_false (by omega));clear hR
   go_enter Tryz.func65,Tryz.ntmps65
   go_wp2_with fail
   go_ret;rw[HE.o];exact⟨rfl,Below.refl _ _⟩
 ·have q2:decide (n ≥ (-2305843009213693952))=false:=decide_eq_false (by omega);have HE:Hid (R=false):=lh (by rw[hR];exact decide_eq_false (by omega));clear hR
  go_enter Tryz.func65,Tryz.ntmps65
  go_wp2_with fail
  go_ret;rw[HE.o];exact⟨rfl,Below.refl _ _⟩
theorem RIntg_any (w:World) (n:Int):Calls Tryz.prog 43 #[iv n] w (qe7 w (intV n)):=by
 obtain⟨R,hR⟩:∃ R,R=intV n:=⟨_,rfl⟩
 rw[← hR]
 by_cases h2:(-2305843009213693952)≤n
 ·have q2:decide (n ≥ (-2305843009213693952))=true:=decide_eq_true (by omega)
  by_cases h1:n≤2305843009213693951
  ·have q1:decide (n≤2305843009213693951)=true:=decide_eq_true (by omega);have HE:Hid (R=true):=lh (by rw[hR];exact decide_eq_true (by omega));clear hR h1 h2
   go_enter Tryz.func43,Tryz.ntmps43
   go_wp2_with fail
   go_ret;rw[HE.o];exact⟨rfl,Below.refl _ _⟩
  ·have q1:decide (n≤2305843009213693951)=false:=decide_eq_false (by omega);have HE:Hid (R=false):=lh (by rw[hR];exact decide_eq_false (by omega));clear hR
   go_enter Tryz.func43,Tryz.ntmps43
   go_wp2_with fail
   go_ret;rw[HE.o];exact⟨rfl,Below.refl _ _⟩
 ·have q2:decide (n ≥ (-2305843009213693952))=false:=decide_eq_false (by omega);have HE:Hid (R=false):=lh (by rw[hR];exact decide_eq_false (by omega));clear hR
  go_enter Tryz.func43,Tryz.ntmps43
  go_wp2_with fail
  go_ret;rw[HE.o];exact⟨rfl,Below.refl _ _⟩
theorem qv9 (w:World) (a b:Int):Calls Tryz.prog 67 #[.agg #[iv a,iv b]] w (qe7 w (idV a b)):=by
 obtain⟨R,hR⟩:∃ R,R=idV a b:=⟨_,rfl⟩
 rw[← hR]
 by_cases h4:1≤a
 ·have q4:decide (a ≥ 1)=true:=decide_eq_true (by omega)
  by_cases h3:a≤8
  ·have q3:decide (a≤8)=true:=decide_eq_true (by omega)
   by_cases h2:1≤b
   ·have q2:decide (b ≥ 1)=true:=decide_eq_true (by omega)
    by_cases h1:b≤1099511627775
    ·have q1:decide (b≤1099511627775)=true:=decide_eq_true (by omega);have HE:Hid (R=true):=lh (by rw[hR];exact decide_eq_true (by omega));clear hR h1 h2 h3 h4
     go_enter Tryz.func67,Tryz.ntmps67
     go_wp2_with fail
     go_ret;rw[HE.o];exact⟨rfl,qa2 _ _⟩
    ·have q1:decide (b≤1099511627775)=false:=decide_eq_false (by omega);have HE:Hid (R=false):=lh (by rw[hR];exact decide_eq_false (by omega));clear hR
     go_enter Tryz.func67,Tryz.ntmps67
     go_wp2_with fail
     go_ret;rw[HE.o];exact⟨rfl,qa2 _ _⟩
   ·have q2:decide (b ≥ 1)=false:=decide_eq_false (by omega);have HE:Hid (R=false):=lh (by rw[hR];exact decide_eq_false (by omega));clear hR
    go_enter Tryz.func67,Tryz.ntmps67
    go_wp2_with fail
    go_ret;rw[HE.o];exact⟨rfl,qa2 _ _⟩
  ·have q3:decide (a≤8)=false:=decide_eq_false (by omega);have HE:Hid (R=false):=lh (by rw[hR];exact decide_eq_false (by omega));clear hR
   go_enter Tryz.func67,Tryz.ntmps67
   go_wp2_with fail
   go_ret;rw[HE.o];exact⟨rfl,qa2 _ _⟩
 ·have q4:decide (a ≥ 1)=false:=decide_eq_false (by omega);have HE:Hid (R=false):=lh (by rw[hR];exact decide_eq_false (by omega));clear hR
  go_enter Tryz.func67,Tryz.ntmps67
  go_wp2_with fail
  go_ret;rw[HE.o];exact⟨rfl,qa2 _ _⟩
theorem qo8 (w:World) (a b:Int):Calls Tryz.prog 45 #[.agg #[iv a,iv b]] w (qe7 w (idV a b)):=by
 obtain⟨R,hR⟩:∃ R,R=idV a b:=⟨_,rfl⟩
 rw[← hR]
 by_cases h4:1≤a
 ·have q4:decide (a ≥ 1)=true:=decide_eq_true (by omega)
  by_cases h3:a≤8
  ·have q3:decide (a≤8)=true:=decide_eq_true (by omega)
   by_cases h2:1≤b
   ·have q2:decide (b ≥ 1)=true:=decide_eq_true (by omega)
    by_cases h1:b≤1099511627775
    ·have q1:decide (b≤1099511627775)=true:=decide_eq_true (by omega);have HE:Hid (R=true):=lh (by rw[hR];exact decide_eq_true (by omega));clear hR h1 h2 h3 h4
     go_enter Tryz.func45,Tryz.ntmps45
     go_wp2_with fail
     go_ret;rw[HE.o];exact⟨rfl,qa2 _ _⟩
    ·have q1:decide (b≤1099511627775)=false:=decide_eq_false (by omega);have HE:Hid (R=false):=lh (by rw[hR];exact decide_eq_false (by omega));clear hR
     go_enter Tryz.func45,Tryz.ntmps45
     go_wp2_with fail
     go_ret;rw[HE.o];exact⟨rfl,qa2 _ _⟩
   ·have q2:decide (b ≥ 1)=false:=decide_eq_false (by omega);have HE:Hid (R=false):=lh (by rw[hR];exact decide_eq_false (by omega));clear hR
    go_enter Tryz.func45,Tryz.ntmps45
    go_wp2_with fail
    go_ret;rw[HE.o];exact⟨rfl,qa2 _ _⟩
  ·have q3:decide (a≤8)=false:=decide_eq_false (by omega);have HE:Hid (R=false):=lh (by rw[hR];exact decide_eq_false (by omega));clear hR
   go_enter Tryz.func45,Tryz.ntmps45
   go_wp2_with fail
   go_ret;rw[HE.o];exact⟨rfl,qa2 _ _⟩
 ·have q4:decide (a ≥ 1)=false:=decide_eq_false (by omega);have HE:Hid (R=false):=lh (by rw[hR];exact decide_eq_false (by omega));clear hR
  go_enter Tryz.func45,Tryz.ntmps45
  go_wp2_with fail
  go_ret;rw[HE.o];exact⟨rfl,qa2 _ _⟩
theorem bts_eq0 {s:ByteArray} (h:s.size=0):s.toList=[]:=by
 rw[Go.ByteArray.toList_eq];exact List.length_eq_zero_iff.1 (by simpa using h)
theorem bts_ne0 {s:ByteArray} (h:s.size≠0):¬ s.toList=[]:=fun e=>by
 rw[Go.ByteArray.toList_eq] at e;refine h ?_;have:=congrArg List.length e
 simpa using this
theorem Nam_any (w:World) (s:ByteArray):Calls Tryz.prog 102 #[.string s] w (qe7 w (nmV s)):=by
 obtain⟨R,hR⟩:∃ R,R=nmV s:=⟨_,rfl⟩
 rw[← hR]
 by_cases h2:s.size≠0
 ·have q2:¬ s.toList=[]:=bts_ne0 h2;have q9:s.toList.isEmpty=false:=by simpa using bts_ne0 h2
  by_cases h1:s.size≤31
  ·have q1:decide ((s.size:Int)≤31)=true:=decide_eq_true (by omega);have HE:Hid (R=true):=lh (by rw[hR];exact decide_eq_true (by omega));clear hR h1 h2
   go_enter Tryz.func102,Tryz.ntmps102
   go_wp2_with fail
   go_ret;rw[HE.o];exact⟨rfl,Below.refl _ _⟩
  ·have q1:decide ((s.size:Int)≤31)=false:=decide_eq_false (by omega);have HE:Hid (R=false):=lh (by rw[hR];exact decide_eq_false (by omega));clear hR
   go_enter Tryz.func102,Tryz.ntmps102
   go_wp2_with fail
   go_ret;rw[HE.o];exact⟨rfl,Below.refl _ _⟩
 ·have q2:s.toList=[]:=bts_eq0 (by omega);have q9:s.toList.isEmpty=true:=by simpa using bts_eq0 (s:=s) (by omega)
  have HE:Hid (R=false):=lh (by rw[hR];exact decide_eq_false (by omega));clear hR
  go_enter Tryz.func102,Tryz.ntmps102
  go_wp2_with fail
  go_ret;rw[HE.o];exact⟨rfl,Below.refl _ _⟩
theorem qr7 (w:World) (s:ByteArray):Calls Tryz.prog 63 #[.string s] w (qe7 w (nmV s)):=by
 obtain⟨R,hR⟩:∃ R,R=nmV s:=⟨_,rfl⟩
 rw[← hR]
 by_cases h2:1≤s.size
 ·have q2:decide ((s.size:Int) ≥ 1)=true:=decide_eq_true (by omega)
  by_cases h1:s.size≤31
  ·have q1:decide ((s.size:Int)≤31)=true:=decide_eq_true (by omega);have HE:Hid (R=true):=lh (by rw[hR];exact decide_eq_true (by omega));clear hR h1 h2
   go_enter Tryz.func63,Tryz.ntmps63
   go_wp2_with fail
   go_ret;rw[HE.o];exact⟨rfl,Below.refl _ _⟩
  ·have q1:decide ((s.size:Int)≤31)=false:=decide_eq_false (by omega);have HE:Hid (R=false):=lh (by rw[hR];exact decide_eq_false (by omega));clear hR
   go_enter Tryz.func63,Tryz.ntmps63
   go_wp2_with fail
   go_ret;rw[HE.o];exact⟨rfl,Below.refl _ _⟩
 ·have q2:decide ((s.size:Int) ≥ 1)=false:=decide_eq_false (by omega);have HE:Hid (R=false):=lh (by rw[hR];exact decide_eq_false (by omega));clear hR
  go_enter Tryz.func63,Tryz.ntmps63
  go_wp2_with fail
  go_ret;rw[HE.o];exact⟨rfl,Below.refl _ _⟩
theorem eql_rf (w:World) (a0 a1 a2 a3 a4 a5 a6 b0 b1 b2 b3 b4 b5 b6:Int) (a7 b7:Bool):(binOp .eql 26 (.agg #[iv a0,iv a1,iv a2,uv a3,iv a4,iv a5,iv a6,.bool a7]) (.agg #[iv b0,iv b1,iv b2,uv b3,iv b4,iv b5,iv b6,.bool b7])).run Tryz.prog w=.ok (.bool (decide ((⟨a0,a1,a2,a3,a4,a5,a6,a7⟩:Rf)=⟨b0,b1,b2,b3,b4,b5,b6,b7⟩))) w:=by
 go_simp
 repeat' split
 all_goals simp_all
theorem Vref_any (w:World) (x:Rf):Calls Tryz.prog 41 #[.agg #[iv x.kind,iv x.int,iv x.owner,uv x.number,iv x.idm,iv x.ids,iv x.cls,.bool x.weak]] w (qe7 w (rfV x)):=by
 obtain⟨R,hR⟩:∃ R,R=rfV x:=⟨_,rfl⟩
 rw[← hR];unfold rfV at hR
 obtain⟨W,hW⟩:∃ W,W=w.alloc (.cells #[iv x.kind,iv x.int,iv x.owner,uv x.number,iv x.idm,iv x.ids,iv x.cls,.bool x.weak] 26):=⟨_,rfl⟩
 obtain⟨g,hg⟩:∃ g,g=w.heap.size:=⟨_,rfl⟩
 have hb0:bw w W:=by rw[hW];exact qa2 _ _
 have hk0:Bk W g 26 #[iv x.kind,iv x.int,iv x.owner,uv x.number,iv x.idm,iv x.ids,iv x.cls,.bool x.weak]:=by rw[hW,hg];exact Bk.new _ _ _
 have a0:cl W g 0 (iv x.kind):=hk0.cell 0;have a1:cl W g 1 (iv x.int):=hk0.cell 1;have a2:cl W g 2 (iv x.owner):=hk0.cell 2;have a3:cl W g 3 (uv x.number):=hk0.cell 3;have a4:cl W g 4 (iv x.idm):=hk0.cell 4;have a5:cl W g 5 (iv x.ids):=hk0.cell 5;have a6:cl W g 6 (iv x.cls):=hk0.cell 6;have a7:cl W g 7 (.bool x.weak):=hk0.cell 7;have HB0:=lh hb0;have HK0:=lh hk0;have hee:=eql_rf;clear hb0 hk0
 go_enter Tryz.func41,Tryz.ntmps41
 go_upto_region 1 with fail
 rw[← hW,← hg];clear hW hg
 by_cases k0:x.kind=0
 ·rw[if_pos k0] at hR;have HE:=lh (And.intro hR k0);rw[k0] at a0;clear hR k0
  go_wp2_with fail
  go_ret;refine⟨cgb ?_,HB0.o⟩;rw[HE.o.1];have:=HE.o.2;cases x
  simp_all [Rf.zero]
 ·rw[if_neg k0] at hR;have f0:(x.kind == 0)=false:=by simpa using k0
  by_cases k1:x.kind=1
  ·rw[if_pos k1] at hR;have HE:=lh (And.intro hR k1);rw[k1] at a0;have cI:=Intg_any W x.int
   cases hI:intV x.int with
   | true =>
    rw[hI] at cI;have HI:=lh hI;clear hR k1 k0 f0 hI
    go_wp2_with fail
    refine cI.mono ?_;rintro e w2 ⟨rfl,hb2⟩;have hk2:=HK0.o.below hb2 HK0.o.lt;have HB2:=lh (HB0.o.trans (hb2.mono HB0.o.size));rw[HE.o.2] at hk2;have b0:cl w2 g 0 (iv 1):=hk2.cell 0;have b1:cl w2 g 1 (iv x.int):=hk2.cell 1;have b2:cl w2 g 2 (iv x.owner):=hk2.cell 2;have b3:cl w2 g 3 (uv x.number):=hk2.cell 3;have b4:cl w2 g 4 (iv x.idm):=hk2.cell 4;have b5:cl w2 g 5 (iv x.ids):=hk2.cell 5;have b6:cl w2 g 6 (iv x.cls):=hk2.cell 6;have b7:cl w2 g 7 (.bool x.weak):=hk2.cell 7;clear cI hb2 hk2 a0 a1 a2 a3 a4 a5 a6 a7
    go_wp2_with fail
    go_ret;refine⟨cgb ?_,HB2.o⟩;rw[HE.o.1,HI.o];have:=HE.o.2;cases x
    simp_all
   | false =>
    rw[hI] at cI;have HI:=lh hI;clear hR k1 k0 f0 hI
    go_wp2_with fail
    refine cI.mono ?_;rintro e w2 ⟨rfl,hb2⟩;have HB2:=lh (HB0.o.trans (hb2.mono HB0.o.size));clear cI hb2 a0 a1 a2 a3 a4 a5 a6 a7
    go_wp2_with fail
    go_ret;rw[HE.o.1,HI.o];exact⟨rfl,HB2.o⟩
  ·rw[if_neg k1] at hR;have f1:(x.kind == 1)=false:=by simpa using k1
   by_cases k2:x.kind=2
   ·rw[if_pos k2] at hR;have HE:=lh (And.intro hR k2);rw[k2] at a0;clear hR k0 k1 k2 f0 f1
    go_wp2_with fail
    go_ret;refine⟨cgb ?_,HB0.o⟩;rw[HE.o.1];have:=HE.o.2;cases x
    simp_all
   ·rw[if_neg k2] at hR;have f2:(x.kind == 2)=false:=by simpa using k2
    by_cases k3:x.kind=3
    ·rw[if_pos k3] at hR;have HE:=lh hR;rw[k3] at a0;have cM:=qi2 W x.owner;clear hR k0 k1 k2 k3 f0 f1 f2
     cases hM:ql1 x.owner with
     | false =>
      rw[hM] at cM;have HM:=lh hM;clear hM
      go_wp2_with fail
      refine cM.mono ?_;rintro e w2 ⟨rfl,hb2⟩;have HB2:=lh (HB0.o.trans (hb2.mono HB0.o.size));clear cM hb2 a0 a1 a2 a3 a4 a5 a6 a7
      go_wp2_with fail
      go_ret;rw[HE.o,HM.o];exact⟨rfl,HB2.o⟩
     | true =>
      rw[hM] at cM;have HM:=lh hM;clear hM
      go_wp2_with fail
      refine cM.mono ?_;rintro e w2 ⟨rfl,hb2⟩;have hk2:=HK0.o.below hb2 HK0.o.lt;have HB2:=lh (HB0.o.trans (hb2.mono HB0.o.size));have HK2:=lh hk2;have b4:cl w2 g 4 (iv x.idm):=hk2.cell 4;have b5:cl w2 g 5 (iv x.ids):=hk2.cell 5;have cD:=qv9 w2 x.idm x.ids;clear cM hb2 hk2 a0 a1 a2 a3 a4 a5 a6 a7
      cases hD:idV x.idm x.ids with
      | false =>
       rw[hD] at cD;have HD:=lh hD;clear hD
       go_wp2_with fail
       refine cD.mono ?_;rintro e w3 ⟨rfl,hb3⟩;have HB3:=lh (HB2.o.trans (hb3.mono HB2.o.size));clear cD hb3 b4 b5
       go_wp2_with fail
       go_ret;rw[HE.o,HM.o,HD.o];exact⟨rfl,HB3.o⟩
      | true =>
       rw[hD] at cD;have HD:=lh hD;clear hD
       go_wp2_with fail
       refine cD.mono ?_;rintro e w3 ⟨rfl,hb3⟩;have HB3:=lh (HB2.o.trans (hb3.mono HB2.o.size));have hk3:=HK2.o.below hb3 HK2.o.lt;have b6:cl w3 g 6 (iv x.cls):=hk3.cell 6;have b1:cl w3 g 1 (iv x.int):=hk3.cell 1;clear cD hb3 hk3 b4 b5;have HR:Hid (R=(decide (0≤x.cls) && decide (x.cls≤60) && decide (x.int=0))):=lh (by rw[HE.o,HM.o,HD.o];rfl)
       by_cases c0:0≤x.cls
       ·have q0:decide (x.cls ≥ 0)=true:=decide_eq_true c0
        by_cases c1:x.cls≤60
        ·have q1:decide (x.cls≤60)=true:=decide_eq_true c1;have HC:=lh (And.intro c0 c1);clear c0 c1
         go_wp2_with fail
         go_ret;refine⟨cgb ?_,HB3.o⟩;rw[HR.o,decide_eq_true HC.o.1,decide_eq_true HC.o.2]
         by_cases h:x.int=0 <;> simp[h]
        ·have q1:decide (x.cls≤60)=false:=decide_eq_false c1;have HC:=lh (And.intro c0 c1);clear c0 c1
         go_wp2_with fail
         go_ret;rw[HR.o,decide_eq_false (show ¬ x.cls≤60 by have:=HC.o.2;omega),Bool.and_false];exact⟨rfl,HB3.o⟩
       ·have q0:decide (x.cls ≥ 0)=false:=decide_eq_false c0;have HC:=lh c0;clear c0
        go_wp2_with fail
        go_ret;rw[HR.o,decide_eq_false (show ¬ 0≤x.cls by have:=HC.o;omega)];exact⟨rfl,HB3.o⟩
    ·rw[if_neg k3] at hR;have f3:(x.kind == 3)=false:=by simpa using k3
     have HE:=lh hR;clear hR k0 k1 k2 k3
     go_wp2_with fail
     go_ret;rw[HE.o];exact⟨rfl,HB0.o⟩
theorem qk2 (w:World) (x:Rf):Calls Tryz.prog 21 #[.agg #[iv x.kind,iv x.int,iv x.owner,uv x.number,iv x.idm,iv x.ids,iv x.cls,.bool x.weak]] w (qe7 w (rfV x)):=by
 obtain⟨R,hR⟩:∃ R,R=rfV x:=⟨_,rfl⟩
 rw[← hR];unfold rfV at hR
 obtain⟨W,hW⟩:∃ W,W=w.alloc (.cells #[iv x.kind,iv x.int,iv x.owner,uv x.number,iv x.idm,iv x.ids,iv x.cls,.bool x.weak] 26):=⟨_,rfl⟩
 obtain⟨g,hg⟩:∃ g,g=w.heap.size:=⟨_,rfl⟩
 have hb0:bw w W:=by rw[hW];exact qa2 _ _
 have hk0:Bk W g 26 #[iv x.kind,iv x.int,iv x.owner,uv x.number,iv x.idm,iv x.ids,iv x.cls,.bool x.weak]:=by rw[hW,hg];exact Bk.new _ _ _
 have a0:cl W g 0 (iv x.kind):=hk0.cell 0;have a1:cl W g 1 (iv x.int):=hk0.cell 1;have a2:cl W g 2 (iv x.owner):=hk0.cell 2;have a3:cl W g 3 (uv x.number):=hk0.cell 3;have a4:cl W g 4 (iv x.idm):=hk0.cell 4;have a5:cl W g 5 (iv x.ids):=hk0.cell 5;have a6:cl W g 6 (iv x.cls):=hk0.cell 6;have a7:cl W g 7 (.bool x.weak):=hk0.cell 7;have HB0:=lh hb0;have HK0:=lh hk0;have hee:=eql_rf;clear hb0 hk0
 go_enter Tryz.func21,Tryz.ntmps21
 go_upto_region 1 with fail
 rw[← hW,← hg];clear hW hg
 by_cases k0:x.kind=0
 ·rw[if_pos k0] at hR;have HE:=lh (And.intro hR k0);rw[k0] at a0;clear hR k0
  go_wp2_with fail
  go_ret;refine⟨cgb ?_,HB0.o⟩;rw[HE.o.1];have:=HE.o.2;cases x
  simp_all [Rf.zero]
 ·rw[if_neg k0] at hR;have f0:(x.kind == 0)=false:=by simpa using k0
  by_cases k1:x.kind=1
  ·rw[if_pos k1] at hR;have HE:=lh (And.intro hR k1);rw[k1] at a0;have cI:=RIntg_any W x.int
   cases hI:intV x.int with
   | true =>
    rw[hI] at cI;have HI:=lh hI;clear hR k1 k0 f0 hI
    go_wp2_with fail
    refine cI.mono ?_;rintro e w2 ⟨rfl,hb2⟩;have hk2:=HK0.o.below hb2 HK0.o.lt;have HB2:=lh (HB0.o.trans (hb2.mono HB0.o.size));rw[HE.o.2] at hk2;have b0:cl w2 g 0 (iv 1):=hk2.cell 0;have b1:cl w2 g 1 (iv x.int):=hk2.cell 1;have b2:cl w2 g 2 (iv x.owner):=hk2.cell 2;have b3:cl w2 g 3 (uv x.number):=hk2.cell 3;have b4:cl w2 g 4 (iv x.idm):=hk2.cell 4;have b5:cl w2 g 5 (iv x.ids):=hk2.cell 5;have b6:cl w2 g 6 (iv x.cls):=hk2.cell 6;have b7:cl w2 g 7 (.bool x.weak):=hk2.cell 7;clear cI hb2 hk2 a0 a1 a2 a3 a4 a5 a6 a7
    go_wp2_with fail
    go_ret;refine⟨cgb ?_,HB2.o⟩;rw[HE.o.1,HI.o];have:=HE.o.2;cases x
    simp_all
   | false =>
    rw[hI] at cI;have HI:=lh hI;clear hR k1 k0 f0 hI
    go_wp2_with fail
    refine cI.mono ?_;rintro e w2 ⟨rfl,hb2⟩;have HB2:=lh (HB0.o.trans (hb2.mono HB0.o.size));clear cI hb2 a0 a1 a2 a3 a4 a5 a6 a7
    go_wp2_with fail
    go_ret;rw[HE.o.1,HI.o];exact⟨rfl,HB2.o⟩
  ·rw[if_neg k1] at hR;have f1:(x.kind == 1)=false:=by simpa using k1
   by_cases k2:x.kind=2
   ·rw[if_pos k2] at hR;have HE:=lh (And.intro hR k2);rw[k2] at a0;clear hR k0 k1 k2 f0 f1
    go_wp2_with fail
    go_ret;refine⟨cgb ?_,HB0.o⟩;rw[HE.o.1];have:=HE.o.2;cases x
    simp_all
   ·rw[if_neg k2] at hR;have f2:(x.kind == 2)=false:=by simpa using k2
    by_cases k3:x.kind=3
    ·rw[if_pos k3] at hR;have HE:=lh hR;rw[k3] at a0;have cM:=qe8 W x.owner;clear hR k0 k1 k2 k3 f0 f1 f2
     cases hM:ql1 x.owner with
     | false =>
      rw[hM] at cM;have HM:=lh hM;clear hM
      go_wp2_with fail
      refine cM.mono ?_;rintro e w2 ⟨rfl,hb2⟩;have HB2:=lh (HB0.o.trans (hb2.mono HB0.o.size));clear cM hb2 a0 a1 a2 a3 a4 a5 a6 a7
      go_wp2_with fail
      go_ret;rw[HE.o,HM.o];exact⟨rfl,HB2.o⟩
     | true =>
      rw[hM] at cM;have HM:=lh hM;clear hM
      go_wp2_with fail
      refine cM.mono ?_;rintro e w2 ⟨rfl,hb2⟩;have hk2:=HK0.o.below hb2 HK0.o.lt;have HB2:=lh (HB0.o.trans (hb2.mono HB0.o.size));have HK2:=lh hk2;have b4:cl w2 g 4 (iv x.idm):=hk2.cell 4;have b5:cl w2 g 5 (iv x.ids):=hk2.cell 5;have cD:=qo8 w2 x.idm x.ids;clear cM hb2 hk2 a0 a1 a2 a3 a4 a5 a6 a7
      cases hD:idV x.idm x.ids with
      | false =>
       rw[hD] at cD;have HD:=lh hD;clear hD
       go_wp2_with fail
       refine cD.mono ?_;rintro e w3 ⟨rfl,hb3⟩;have HB3:=lh (HB2.o.trans (hb3.mono HB2.o.size));clear cD hb3 b4 b5
       go_wp2_with fail
       go_ret;rw[HE.o,HM.o,HD.o];exact⟨rfl,HB3.o⟩
      | true =>
       rw[hD] at cD;have HD:=lh hD;clear hD
       go_wp2_with fail
       refine cD.mono ?_;rintro e w3 ⟨rfl,hb3⟩;have HB3:=lh (HB2.o.trans (hb3.mono HB2.o.size));have hk3:=HK2.o.below hb3 HK2.o.lt;have b6:cl w3 g 6 (iv x.cls):=hk3.cell 6;have b1:cl w3 g 1 (iv x.int):=hk3.cell 1;clear cD hb3 hk3 b4 b5;have HR:Hid (R=(decide (0≤x.cls) && decide (x.cls≤60) && decide (x.int=0))):=lh (by rw[HE.o,HM.o,HD.o];rfl)
       by_cases c0:0≤x.cls
       ·have q0:decide (x.cls ≥ 0)=true:=decide_eq_true c0
        by_cases c1:x.cls≤60
        ·have q1:decide (x.cls≤60)=true:=decide_eq_true c1;have HC:=lh (And.intro c0 c1);clear c0 c1
         go_wp2_with fail
         go_ret;refine⟨cgb ?_,HB3.o⟩;rw[HR.o,decide_eq_true HC.o.1,decide_eq_true HC.o.2]
         by_cases h:x.int=0 <;> simp[h]
        ·have q1:decide (x.cls≤60)=false:=decide_eq_false c1;have HC:=lh (And.intro c0 c1);clear c0 c1
         go_wp2_with fail
         go_ret;rw[HR.o,decide_eq_false (show ¬ x.cls≤60 by have:=HC.o.2;omega),Bool.and_false];exact⟨rfl,HB3.o⟩
       ·have q0:decide (x.cls ≥ 0)=false:=decide_eq_false c0;have HC:=lh c0;clear c0
        go_wp2_with fail
        go_ret;rw[HR.o,decide_eq_false (show ¬ 0≤x.cls by have:=HC.o;omega)];exact⟨rfl,HB3.o⟩
    ·rw[if_neg k3] at hR;have f3:(x.kind == 3)=false:=by simpa using k3
     have HE:=lh hR;clear hR k0 k1 k2 k3
     go_wp2_with fail
     go_ret;rw[HE.o];exact⟨rfl,HB0.o⟩
end
section
open Go.RowKit
attribute [local go_sem] Oper.semAt_some
section
variable {w:World} {A B:Option Addr} {c d:Nat} {a b:List Int}
theorem byts_at {j:Nat} (h:j < a.length):(qh2 a)[j]?=some (.int .u8 a[j]):=by unfold qh2;rw[List.getElem?_map,List.getElem?_eq_getElem h];rfl
theorem EqBts_any (ha:Sl w 1 A a.length (qh2 a)) (hb:Sl w 1 B b.length (qh2 b)) (hc:a.length≤c) (hd:b.length≤d) (hl:a.length≤140737488351232) (hm:b.length≤140737488351232):Calls Tryz.prog 27 #[.slice A a.length c,.slice B b.length d] w (qe7 w (decide (a=b))):=by
 by_cases hn:a.length=b.length
 ·have HA:=lh (And.intro ha hb);have HN:=lh hn;rw[← hn] at hd ⊢;have HB0:Hid (bw w w):=lh (Below.refl _ _);clear ha hb hm hn
  go_enter Tryz.func27,Tryz.ntmps27
  go_wp2_with fail
  go_loopw [13] (fun ix wr=>∃ j:Nat,ix=iv (j:Int)∧j≤a.length∧a.take j=b.take j∧bw w wr) (fun ix _=>a.length - (intOf ix).toNat)
  case atStart=>exact⟨0,rfl,Nat.zero_le _,rfl,HB0.o⟩
  case round =>
   obtain⟨j,rfl,hj,ht,hbl⟩:=hrel;have HT:=lh (And.intro ht hbl);clear ht hbl
   by_cases hlt:j < a.length
   ·have hlt2:j < b.length:=by rw[← HN.o];exact hlt
    have hx:a[j]?=some a[j]:=List.getElem?_eq_getElem hlt;have hy:b[j]?=some b[j]:=List.getElem?_eq_getElem hlt2;obtain⟨ba,oa,hA,hba,hca⟩:=HA.o.1.2.resolve_left (by omega);obtain⟨bc,ob,hB,hbb,hcb⟩:=HA.o.2.2.resolve_left (by omega);have e0:cl wr ba (oa+j) (.int .u8 a[j]):=(HT.o.2.cell (p:=⟨ba,oa+j,none⟩) hba).trans (hca _ _ (byts_at hlt));have f0:cl wr bc (ob+j) (.int .u8 b[j]):=(HT.o.2.cell (p:=⟨bc,ob+j,none⟩) hbb).trans (hcb _ _ (byts_at hlt2));subst hA hB;have hjc:j < c:=by omega
    have hjd:j < d:=by omega
    have HXY:=lh (And.intro hx hy)
    obtain⟨x,hxx⟩:∃ x,x=a[j]:=⟨_,rfl⟩
    obtain⟨y,hyy⟩:∃ y,y=b[j]:=⟨_,rfl⟩
    rw[← hxx] at e0 HXY;rw[← hyy] at f0 HXY
    have HBD:Hid (∀ k,bw w (wr.drewN k)):=lh fun k=>⟨HT.o.2.os,HT.o.2.tape,HT.o.2.output,HT.o.2.size,HT.o.2.block⟩
    clear hx hy hca hcb hba hbb hxx hyy hlt2
    by_cases he:x=y
    ·subst he
     go_upto_region 6 with fail
     go_quiet (fail)
     go_wp2_with fail
     go_roundw
     case rel=>exact⟨j+1,by go_num,hlt,by rw[List.take_add_one,List.take_add_one,HXY.o.1,HXY.o.2,HT.o.1],HBD.o _⟩
     case measure=>simp[intOf];omega
    ·have HE:Hid (decide (a=b)=false):=lh (decide_eq_false fun e=>he (by have h1:=HXY.o.1;rw[e,HXY.o.2] at h1;injection h1 with h1;exact h1.symm));have d1:(x == y)=false:=by simpa using he
     clear he
     go_upto_region 6 with fail
     go_quiet (fail)
     go_wp2_with fail
     go_ret;rw[HE.o];exact⟨rfl,HBD.o _⟩
   ·obtain rfl:j=a.length:=by omega
    have he:a=b:=by have:=HT.o.1;rw[List.take_length,HN.o,List.take_length] at this;exact this
    have HE:Hid (decide (a=b)=true):=lh (decide_eq_true he);clear hlt hj he
    go_wp2_with fail
    go_ret;rw[HE.o];exact⟨rfl,HT.o.2⟩
 ·have d0:((a.length:Int) != (b.length:Int))=true:=by simpa using (show ¬ (a.length:Int)=b.length by omega)
  have HE:Hid (decide (a=b)=false):=lh (decide_eq_false fun e=>hn (by rw[e]));clear ha hb hn
  go_enter Tryz.func27,Tryz.ntmps27
  go_wp2_with fail
  go_ret;rw[HE.o];exact⟨rfl,Below.refl _ _⟩
end
section
variable {E:Env} {N:Nat→Prop} {w w1:World} {t:TypeId} {r:List Value} {l:List Int}
theorem Fm.start (w1:World) (h:Bk w1 E.gf 82 #[sn,.pointer none]):Fm E (fun k=>k < E.gf) w1 (.w []) :=
 ⟨none,0,h,World.ownsRow_nil _ _ _ _,fun k hk=>(by cases hk),Nat.lt_irrefl _,fun k hk=>Nat.lt_trans hk h.lt⟩
theorem Hd.box {g:Nat} (h:Bk w1 g t r.toArray) (hg:g < E.gf):Hd E (fun k=>k < E.gf) t g [] [] true w1 r:=by
 unfold Hd;rw[if_pos rfl];refine⟨hg,fun j v hv=>⟨?_,h.free _⟩⟩;rw[List.length_nil,Nat.zero_add,h.cell,List.getElem?_toArray];exact hv
/-- what the form holds at the end -/
theorem Fm.done (h:Fm E (fun k=>k < E.gf) w1 (.w l)) (hw:w.heap.size≤E.gf):∃ A c,Bk w1 E.gf 82 #[.slice A l.length c,.pointer none]∧w1.ownsRow w.heap.size 5 1 (.slice A l.length c) l.length (qh2 l):=by
 obtain⟨A,c,h1,h2,h3,_,_⟩:=h;exact⟨A,c,h1,own_any h2 fun k hk=>by have:=h3 k hk;omega⟩
theorem Fr.toBelow {b:Nat} {w0:World} (h:Fr E (fun k=>k < E.gf) b true w w1) (hb:bw w0 w) (hg:w0.heap.size≤E.gf):bw w0 w1:=by
 unfold Fr at h;rw[qe4] at h;exact h.toBelow hb hb.size fun k hk=>by omega
end
theorem qb6 {n:Int} (h:I64 n):(qb7 n).length≤9:=qh1 (zz_rg h).2
theorem qo2 {x:Rf} (h:rfP x):(qc0 x).length≤64:=by
 have h1:=qb6 h.1;have h2:=qb6 h.2.1;have h3:=qb6 h.2.2.1;have h4:=qb6 h.2.2.2.1;have h5:=qh1 h.2.2.2.2.1.2;have h6:=qb6 h.2.2.2.2.2.1;have h7:=qb6 h.2.2.2.2.2.2;have h8:(qk0 x.weak).length=1:=by cases x.weak <;> rfl
 unfold qc0;simp only[List.length_append]
 omega
section
variable {w:World} {x:Rf}
end
end
section
open Go.RowKit
attribute [local go_sem] Oper.semAt_some
/-- more may be protected -/
def RU {α:Type} (R:Rel α):Prop:=∀ (N N2:Nat→Prop) (w:World) (x:α) (r:List Value),(∀ k,N k→N2 k)→R true N w x r→R true N2 w x r
theorem qa1 {α:Type} (cells:α→List Value):RU (qa6 cells):=fun _ _ _ _ _ _ h=>h
theorem LsR.up {α:Type} {R:Rel α} {tE:TypeId} {sz:Nat} {N N2:Nat→Prop} {w:World} {A:Option Addr} {c:Nat} {l:List α} (hR:RU R) (h:LsR R tE sz true N w A c l) (hs:∀ k,N k→N2 k):LsR R tE sz true N2 w A c l:=by
 unfold LsR at h ⊢;rw[if_pos rfl] at h ⊢;refine⟨h.1,h.2.1,h.2.2.imp id fun⟨b,o,h1,h2,h3⟩=>⟨b,o,h1,hs b h2,fun i x hx=>?_⟩⟩;obtain⟨r,g1,g2,g3⟩:=h3 i x hx;exact⟨r,g1,hR _ _ _ _ _ hs g2,g3⟩
theorem qg1:RU LtR:=fun N N2 w x r hs ⟨A,c,h1,h2⟩=>⟨A,c,h1,h2.up (qa1 rfC) hs⟩
theorem msR_ru:RU MsR:=fun N N2 w x r hs ⟨A1,c1,A2,c2,A3,c3,A4,c4,A5,c5,A6,c6,A7,c7,A8,c8,h,h1,h2,h3,h4,h5,h6,h7,h8⟩ =>
 ⟨A1,c1,A2,c2,A3,c3,A4,c4,A5,c5,A6,c6,A7,c7,A8,c8,h,h1.up (qa1 rfC) hs,h2.up (qa1 rfC) hs,h3.up qg1 hs,h4.up (qa1 waC) hs,h5.up (qa1 inC) hs,h6.up (qa1 ndC) hs,h7.up (qa1 ndC) hs,h8.up (qa1 ndC) hs⟩
def msBad (t:TypeId):Prop:=t=26 ∨ t=29 ∨ t=65 ∨ t=99 ∨ t=136
theorem msR_rk:RK MsR msBad :=
 ⟨fun⟨A1,c1,A2,c2,A3,c3,A4,c4,A5,c5,A6,c6,A7,c7,A8,c8,h,h1,h2,h3,h4,h5,h6,h7,h8⟩ hk=>⟨A1,c1,A2,c2,A3,c3,A4,c4,A5,c5,A6,c6,A7,c7,A8,c8,h,h1.wr (qa0 rfC) hk,h2.wr (qa0 rfC) hk,h3.wr ltR_rk hk,h4.wr (qa0 waC) hk,h5.wr (qa0 inC) hk,h6.wr (qa0 ndC) hk,h7.wr (qa0 ndC) hk,h8.wr (qa0 ndC) hk⟩,
  fun {N S w w' x r} ⟨A1,c1,A2,c2,A3,c3,A4,c4,A5,c5,A6,c6,A7,c7,A8,c8,h,h1,h2,h3,h4,h5,h6,h7,h8⟩ hk hS=>by
  have k1:∀ k,S k→∃ t cs,Bk w k t cs∧t≠26∧¬ False:=fun k h=>let ⟨t,cs,a,b⟩:=hS k h;⟨t,cs,a,fun e=>b (.inl e),id⟩;have k2:∀ k,S k→∃ t cs,Bk w k t cs∧t≠29∧¬ (t=26):=fun k h=>let ⟨t,cs,a,b⟩:=hS k h;⟨t,cs,a,fun e=>b (.inr (.inl e)),fun e=>b (.inl e)⟩;have k3:∀ k,S k→∃ t cs,Bk w k t cs∧t≠65∧¬ False:=fun k h=>let ⟨t,cs,a,b⟩:=hS k h;⟨t,cs,a,fun e=>b (.inr (.inr (.inl e))),id⟩;have k4:∀ k,S k→∃ t cs,Bk w k t cs∧t≠99∧¬ False:=fun k h=>let ⟨t,cs,a,b⟩:=hS k h;⟨t,cs,a,fun e=>b (.inr (.inr (.inr (.inl e)))),id⟩;have k5:∀ k,S k→∃ t cs,Bk w k t cs∧t≠136∧¬ False:=fun k h=>let ⟨t,cs,a,b⟩:=hS k h;⟨t,cs,a,fun e=>b (.inr (.inr (.inr (.inr e)))),id⟩
  exact⟨A1,c1,A2,c2,A3,c3,A4,c4,A5,c5,A6,c6,A7,c7,A8,c8,h,h1.rd (qa0 rfC) hk k1,h2.rd (qa0 rfC) hk k1,h3.rd ltR_rk hk k2,h4.rd (qa0 waC) hk k3,h5.rd (qa0 inC) hk k4,h6.rd (qa0 ndC) hk k5,h7.rd (qa0 ndC) hk k5,h8.rd (qa0 ndC) hk k5⟩⟩
/-- a message that lies in memory, all of it old -/
def MsI (w:World) (x:Ms) (r:List Value):Prop:=MsR true (fun k=>k < w.heap.size) w x r
theorem MsI.below {w w':World} {x:Ms} {r:List Value} (h:MsI w x r) (hb:bw w w'):MsI w' x r:=msR_ru _ _ _ _ _ (fun k hk=>Nat.lt_of_lt_of_le hk hb.size) (msR_rk.wr h (Kp.of_below hb))
section
variable {w:World} {x:Ms} {r:List Value}
theorem qk9 (hR:MsI w x r) (hx:msP x) (hl:(qe6 x).length≤2147483648):Calls Tryz.prog 28 #[.agg r.toArray] w (EncP w (qe6 x)):=by
 obtain⟨W,hW⟩:∃ W,W=w.alloc (.cells r.toArray 42):=⟨_,rfl⟩
 obtain⟨g,hg⟩:∃ g,g=w.heap.size:=⟨_,rfl⟩
 have hb0:bw w W:=by rw[hW];exact qa2 _ _
 have hk0:Bk W g 42 r.toArray:=by rw[hW,hg];exact Bk.new _ _ _
 obtain⟨w3,hw3⟩:∃ w3,w3=W.alloc (.cells #[sn,.pointer none] 82):=⟨_,rfl⟩
 obtain⟨gf,hgf⟩:∃ gf,gf=W.heap.size:=⟨_,rfl⟩
 have hb3:bw W w3:=by rw[hw3];exact qa2 _ _
 have hf3:Bk w3 gf 82 #[sn,.pointer none]:=by rw[hw3,hgf];exact Bk.new _ _ _
 have hk3:=hk0.below hb3 hk0.lt;have hgl:g < gf:=by rw[hgf];exact hk0.lt
 have hww:w.heap.size≤gf:=by rw[hgf];exact hb0.size
 have HB3:=lh (hb0.trans (hb3.mono hb0.size));have hR3:MsR true (fun k=>k < gf) w3 x r:=msR_ru _ _ _ _ _ (fun k hk=>Nat.lt_of_lt_of_le hk hww) (msR_rk.wr hR (Kp.of_below HB3.o));have cM:=qs2 (E:=⟨gf,0,0⟩) (N:=fun k=>k < gf) (x:=x) (s:=.w []) (t:=42) (b:=g) (pre:=[]) (post:=[]) (o:=0) (r:=r) (Fm.start (E:=⟨gf,0,0⟩) w3 hf3) hR3 (Hd.box (E:=⟨gf,0,0⟩) hk3 hgl) rfl (fun h=>by cases h) (by decide) (by decide) (by decide) (by decide) (by decide) hx (show 0+(qe6 x).length≤2147483648 by omega);have hs:stp qe6 qn5 (.w []) x=(.w (qe6 x),x):=rfl;rw[hs] at cM;dsimp only at cM
 obtain⟨l,hl2⟩:∃ l,l=qe6 x:=⟨_,rfl⟩
 rw[← hl2] at cM ⊢;have HWW:=lh hww;obtain⟨A1,c1,A2,c2,A3,c3,A4,c4,A5,c5,A6,c6,A7,c7,A8,c8,rfl,_⟩:=hR;clear hx hl hb0 hk0 hb3 hf3 hk3 hgl hww hs hR3 hl2
 go_enter Tryz.func28,Tryz.ntmps28
 go_upto_region 2 with fail
 have he:gf=g+1:=by rw[hgf,hW,hg];simp
 rw[← hW,← hg,← hw3,← he];clear hw3 hgf hW hg he
 go_wp2_with fail
 refine cM.mono ?_;rintro e w4 ⟨rfl,hF4,_,hfr4⟩;obtain⟨A,c,hbk4,ho4⟩:=hF4.done (w:=w) HWW.o;have c0:cl w4 gf 0 (.slice A l.length c):=hbk4.cell 0;have HB4:=lh (hfr4.toBelow (w0:=w) HB3.o HWW.o);have HO4:=lh ho4;clear cM hF4 hfr4 hbk4 ho4
 go_wp2_with fail
 go_ret;exact⟨_,rfl,HO4.o,HB4.o⟩
end
section
variable {E:Env} {N:Nat→Prop} {w w1:World} {t:TypeId} {r:List Value} {rd:Rd}
theorem Fm.read (h:Bk w1 E.gf 82 #[sn,pq E.g 0]) (hr:RdX w1 E.g E.bb rd) (h1:E.g < E.gf) (h2:E.bb < w1.heap.size):Fm E N w1 (.r rd):=⟨h,hr,by omega,h2⟩
theorem Hd.rbox {g:Nat} (h:Bk w1 g t r.toArray) (h1:g≠E.gf) (h2:g≠E.g) (h3:g≠E.bb):Hd E N t g [] [] false w1 r:=by
 unfold Hd;rw[if_neg (by simp)];exact⟨by rw[List.nil_append,List.append_nil];exact h,h1,h2,h3⟩
theorem Hd.bk {g:Nat} (h:Hd E N t g [] [] false w1 r):Bk w1 g t r.toArray:=by
 unfold Hd at h;rw[if_neg (by simp)] at h;have:=h.1;rw[List.nil_append,List.append_nil] at this;exact this
end
end
end Go.Proofs.YtmbnlccafcfbeaaGreatDoor
