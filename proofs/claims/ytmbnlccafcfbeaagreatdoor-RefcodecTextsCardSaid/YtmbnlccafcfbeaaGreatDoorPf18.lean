/- Parts of the proof: RsE, RsF, RcTx2, RcTx3, RcTx4. -/
import Derived.BigQuiet
import Derived.Deep.QuietTactic
import Derived.Lib.AppendZerosOnto
import Derived.Lib.QuietBelow
import Derived.Test.YtmbnlccafcfbeaaGreatDoorPfA
import Derived.Test.YtmbnlccafcfbeaaGreatDoorPf16
import Derived.Test.YtmbnlccafcfbeaaGreatDoorPf17
set_option linter.unusedVariables false
set_option linter.unusedSimpArgs false
set_option linter.unusedSectionVars false
set_option maxRecDepth 100000
set_option maxHeartbeats 64000000
namespace Go.Proofs.YtmbnlccafcfbeaaGreatDoor
section
open Go.RowKit Go.Sort
attribute [local go_sem] Oper.semAt_some
theorem eql_rfs (w:World) (x y:Rf):(binOp .eql 26 (.agg #[iv x.kind,iv x.int,iv x.owner,uv x.number,iv x.idm,iv x.ids,iv x.cls,.bool x.weak]) (.agg #[iv y.kind,iv y.int,iv y.owner,uv y.number,iv y.idm,iv y.ids,iv y.cls,.bool y.weak])).run Tryz.prog w=.ok (.bool (decide (x=y))) w:=by
 cases x;cases y;go_simp
 repeat' split
 all_goals simp_all
theorem qs1 (x y:Ms):decide (x=y)=(decide (x.kind=y.kind) && decide (x.number=y.number) && decide (x.asker=y.asker) && decide (x.name=y.name) && decide (x.ref=y.ref) && decide (x.letter=y.letter) && decide (x.parcel=y.parcel) && decide (x.tm=y.tm∧x.ts=y.ts) && decide (x.answer=y.answer) && decide (x.claim=y.claim)):=by
 cases x;cases y;simp only[Ms.mk.injEq];rw[Bool.eq_iff_iff];simp only[decide_eq_true_eq,Bool.and_eq_true];exact⟨fun⟨a,b,c,d,e,f,g,h,i,j,k⟩=>⟨⟨⟨⟨⟨⟨⟨⟨⟨a,b⟩,c⟩,d⟩,e⟩,f⟩,g⟩,h,i⟩,j⟩,k⟩,fun⟨⟨⟨⟨⟨⟨⟨⟨⟨a,b⟩,c⟩,d⟩,e⟩,f⟩,g⟩,h,i⟩,j⟩,k⟩=>⟨a,b,c,d,e,f,g,h,i,j,k⟩⟩
theorem eql_tr (w:World) (a b c d:Int):(binOp .eql 34 (.agg #[iv a,iv b]) (.agg #[iv c,iv d])).run Tryz.prog w=.ok (.bool (decide (a=c∧b=d))) w:=by
 go_simp
 repeat' split
 all_goals simp_all
theorem qq1 {w:World} {g:Nat} {t:TypeId} {M:Array Value} (h:Bk w g t M) (o n:Nat) {l:List Value} (hl:l=(M.toList.drop o).take n):w.rangeAt g o l:=fun j v hv=>by
 subst hl;rw[h.cell (o+j)]
 have hj:j < n:=by
  have:=(List.getElem?_eq_some_iff.1 hv).1;rw[List.length_take] at this
  omega
 rw[List.getElem?_take_of_lt hj,List.getElem?_drop] at hv
 simpa using hv
theorem Same_any {w:World} {x y:Ms} {r1 r2:List Value} (h1:MsI w x r1) (h2:MsI w y r2):Calls Tryz.prog 14 #[.agg r1.toArray,.agg r2.toArray] w (qe7 w (decide (x=y))):=by
 obtain⟨A1,c1,A2,c2,A3,c3,A4,c4,A5,c5,A6,c6,A7,c7,A8,c8,hr1,hx1,hx2,hx3,hx4,hx5,hx6,hx7,hx8⟩:=h1;obtain⟨B1,d1,B2,d2,B3,d3,B4,d4,B5,d5,B6,d6,B7,d7,B8,d8,hr2,hy1,hy2,hy3,hy4,hy5,hy6,hy7,hy8⟩:=h2
 obtain⟨M,hM⟩:∃ M,M=r1.toArray:=⟨_,rfl⟩
 obtain⟨L,hL⟩:∃ L,L=r2.toArray:=⟨_,rfl⟩
 rw[← hM,← hL];rw[hr1] at hM;rw[hr2] at hL;clear hr1 hr2;have HM:=lh hM;have HL:=lh hL
 obtain⟨R,hR⟩:∃ R,R=decide (x=y):=⟨_,rfl⟩
 rw[← hR];have HR:=lh hR
 obtain⟨W,hW⟩:∃ W,W=(w.alloc (.cells M 42)).alloc (.cells L 42):=⟨_,rfl⟩
 obtain⟨g,hg⟩:∃ g,g=w.heap.size:=⟨_,rfl⟩
 have hb0:bw w W:=by rw[hW];exact((Below.refl _ _).alloc (Nat.le_refl _) _).alloc (by simp) _
 have hk0:Bk W g 42 M:=by rw[hW,hg];exact(Bk.new _ _ _).alloc _
 have hj0:Bk W (g+1) 42 L:=by rw[hW,hg];have:=Bk.new (w.alloc (.cells M 42)) 42 L;simpa using this
 have MX10:Hid (LsI (qa6 rfC) 26 8 W A1 c1 x.letter.args):=lh ((show LsI (qa6 rfC) 26 8 w A1 c1 x.letter.args from hx1).below (qa1 _) (qa0 _) hb0);have MY10:Hid (LsI (qa6 rfC) 26 8 W B1 d1 y.letter.args):=lh ((show LsI (qa6 rfC) 26 8 w B1 d1 y.letter.args from hy1).below (qa1 _) (qa0 _) hb0);have MX20:Hid (LsI (qa6 rfC) 26 8 W A2 c2 x.parcel.fields):=lh ((show LsI (qa6 rfC) 26 8 w A2 c2 x.parcel.fields from hx2).below (qa1 _) (qa0 _) hb0);have MY20:Hid (LsI (qa6 rfC) 26 8 W B2 d2 y.parcel.fields):=lh ((show LsI (qa6 rfC) 26 8 w B2 d2 y.parcel.fields from hy2).below (qa1 _) (qa0 _) hb0);have MX30:Hid (LsI (LtR) 29 4 W A3 c3 x.parcel.mail):=lh ((show LsI (LtR) 29 4 w A3 c3 x.parcel.mail from hx3).below (qg1) (ltR_rk) hb0);have MY30:Hid (LsI (LtR) 29 4 W B3 d3 y.parcel.mail):=lh ((show LsI (LtR) 29 4 w B3 d3 y.parcel.mail from hy3).below (qg1) (ltR_rk) hb0);have MX40:Hid (LsI (qa6 waC) 65 12 W A4 c4 x.parcel.watches):=lh ((show LsI (qa6 waC) 65 12 w A4 c4 x.parcel.watches from hx4).below (qa1 _) (qa0 _) hb0);have MY40:Hid (LsI (qa6 waC) 65 12 W B4 d4 y.parcel.watches):=lh ((show LsI (qa6 waC) 65 12 w B4 d4 y.parcel.watches from hy4).below (qa1 _) (qa0 _) hb0);have MX50:Hid (LsI (qa6 inC) 99 3 W A5 c5 x.answer.inset):=lh ((show LsI (qa6 inC) 99 3 w A5 c5 x.answer.inset from hx5).below (qa1 _) (qa0 _) hb0);have MY50:Hid (LsI (qa6 inC) 99 3 W B5 d5 y.answer.inset):=lh ((show LsI (qa6 inC) 99 3 w B5 d5 y.answer.inset from hy5).below (qa1 _) (qa0 _) hb0);have MX60:Hid (LsI (qa6 ndC) 136 3 W A6 c6 x.claim.stubs):=lh ((show LsI (qa6 ndC) 136 3 w A6 c6 x.claim.stubs from hx6).below (qa1 _) (qa0 _) hb0);have MY60:Hid (LsI (qa6 ndC) 136 3 W B6 d6 y.claim.stubs):=lh ((show LsI (qa6 ndC) 136 3 w B6 d6 y.claim.stubs from hy6).below (qa1 _) (qa0 _) hb0);have MX70:Hid (LsI (qa6 ndC) 136 3 W A7 c7 x.claim.scions):=lh ((show LsI (qa6 ndC) 136 3 w A7 c7 x.claim.scions from hx7).below (qa1 _) (qa0 _) hb0);have MY70:Hid (LsI (qa6 ndC) 136 3 W B7 d7 y.claim.scions):=lh ((show LsI (qa6 ndC) 136 3 w B7 d7 y.claim.scions from hy7).below (qa1 _) (qa0 _) hb0);have MX80:Hid (LsI (qa6 ndC) 136 3 W A8 c8 x.claim.checks):=lh ((show LsI (qa6 ndC) 136 3 w A8 c8 x.claim.checks from hx8).below (qa1 _) (qa0 _) hb0);have MY80:Hid (LsI (qa6 ndC) 136 3 W B8 d8 y.claim.checks):=lh ((show LsI (qa6 ndC) 136 3 w B8 d8 y.claim.checks from hy8).below (qa1 _) (qa0 _) hb0);have xa0:cl W g 0 (iv x.kind):=(hk0.cell 0).trans (by rw[HM.o];rfl);have xa1:cl W g 1 (uv x.number):=(hk0.cell 1).trans (by rw[HM.o];rfl);have xa2:cl W g 2 (iv x.asker):=(hk0.cell 2).trans (by rw[HM.o];rfl);have xa3:cl W g 3 (.string x.name):=(hk0.cell 3).trans (by rw[HM.o];rfl);have xa4:cl W g 4 (iv x.ref.kind):=(hk0.cell 4).trans (by rw[HM.o];rfl);have xa5:cl W g 5 (iv x.ref.int):=(hk0.cell 5).trans (by rw[HM.o];rfl);have xa6:cl W g 6 (iv x.ref.owner):=(hk0.cell 6).trans (by rw[HM.o];rfl);have xa7:cl W g 7 (uv x.ref.number):=(hk0.cell 7).trans (by rw[HM.o];rfl);have xa8:cl W g 8 (iv x.ref.idm):=(hk0.cell 8).trans (by rw[HM.o];rfl);have xa9:cl W g 9 (iv x.ref.ids):=(hk0.cell 9).trans (by rw[HM.o];rfl);have xa10:cl W g 10 (iv x.ref.cls):=(hk0.cell 10).trans (by rw[HM.o];rfl);have xa11:cl W g 11 (.bool x.ref.weak):=(hk0.cell 11).trans (by rw[HM.o];rfl);have ya0:cl W (g+1) 0 (iv y.kind):=(hj0.cell 0).trans (by rw[HL.o];rfl);have ya1:cl W (g+1) 1 (uv y.number):=(hj0.cell 1).trans (by rw[HL.o];rfl);have ya2:cl W (g+1) 2 (iv y.asker):=(hj0.cell 2).trans (by rw[HL.o];rfl);have ya3:cl W (g+1) 3 (.string y.name):=(hj0.cell 3).trans (by rw[HL.o];rfl);have ya4:cl W (g+1) 4 (iv y.ref.kind):=(hj0.cell 4).trans (by rw[HL.o];rfl);have ya5:cl W (g+1) 5 (iv y.ref.int):=(hj0.cell 5).trans (by rw[HL.o];rfl);have ya6:cl W (g+1) 6 (iv y.ref.owner):=(hj0.cell 6).trans (by rw[HL.o];rfl);have ya7:cl W (g+1) 7 (uv y.ref.number):=(hj0.cell 7).trans (by rw[HL.o];rfl);have ya8:cl W (g+1) 8 (iv y.ref.idm):=(hj0.cell 8).trans (by rw[HL.o];rfl);have ya9:cl W (g+1) 9 (iv y.ref.ids):=(hj0.cell 9).trans (by rw[HL.o];rfl);have ya10:cl W (g+1) 10 (iv y.ref.cls):=(hj0.cell 10).trans (by rw[HL.o];rfl);have ya11:cl W (g+1) 11 (.bool y.ref.weak):=(hj0.cell 11).trans (by rw[HL.o];rfl);have HK0:=lh hk0;have HJ0:=lh hj0;have HB0:=lh hb0;clear hb0 hk0 hj0 hR hM hL hx1 hy1 hx2 hy2 hx3 hy3 hx4 hy4 hx5 hy5 hx6 hy6 hx7 hy7 hx8 hy8
 go_enter Tryz.func14,Tryz.ntmps14
 go_upto_region 1 with fail
 rw[← hW,← hg];clear hW hg;refine wp_region_list ?_
 cases h0:decide (x.kind=y.kind) with
 | true =>
  have q0:(x.kind == y.kind)=true:=h0;have H0:=lh h0;clear h0
  cases h1:decide (x.number=y.number) with
  | true =>
   have q1:(x.number == y.number)=true:=h1;have H1:=lh h1;clear h1
   cases h2:decide (x.asker=y.asker) with
   | true =>
    have q2:(x.asker == y.asker)=true:=h2;have H2:=lh h2;clear h2
    cases h3:decide (x.name=y.name) with
    | true =>
     have q3:(x.name.toList == y.name.toList)=true:=by rw[qr5];exact h3
     have H3:=lh h3;clear h3
     cases h4:decide (x.ref=y.ref) with
     | true =>
      have q4:∀ W,(binOp .eql 26 (.agg #[iv x.ref.kind,iv x.ref.int,iv x.ref.owner,uv x.ref.number,iv x.ref.idm,iv x.ref.ids,iv x.ref.cls,.bool x.ref.weak]) (.agg #[iv y.ref.kind,iv y.ref.int,iv y.ref.owner,uv y.ref.number,iv y.ref.idm,iv y.ref.ids,iv y.ref.cls,.bool y.ref.weak])).run Tryz.prog W=.ok (.bool true) W:=fun W=>by rw[eql_rfs,h4]
      have H4:=lh h4;clear h4;have RX5:=qq1 (l:=[iv x.letter.idm,iv x.letter.ids,.string x.letter.meth,.slice A1 x.letter.args.length c1]) HK0.o 12 4 (by rw[HM.o];rfl);have RY5:=qq1 (l:=[iv y.letter.idm,iv y.letter.ids,.string y.letter.meth,.slice B1 y.letter.args.length d1]) HJ0.o 12 4 (by rw[HL.o];rfl);have GX5:=lh RX5;have GY5:=lh RY5;clear RX5 RY5
      cases h5:decide (x.letter=y.letter) with
      | true =>
       have kc5:=qj6 (x:=x.letter) (y:=y.letter) MX10.o MY10.o;rw[h5] at kc5;have H5:=lh h5;clear h5
       go_wp2_with (first | (refine qb1 rfl _ _ rfl g 12 rfl [iv x.letter.idm,iv x.letter.ids,.string x.letter.meth,.slice A1 x.letter.args.length c1] _ GX5.o rfl rfl rfl ?_) | (refine qb1 rfl _ _ rfl (g+1) 12 rfl [iv y.letter.idm,iv y.letter.ids,.string y.letter.meth,.slice B1 y.letter.args.length d1] _ GY5.o rfl rfl rfl ?_) | fail)
       refine kc5.mono ?_;rintro e w1 ⟨rfl,hb1⟩;have HB1:=lh (HB0.o.trans (hb1.mono HB0.o.size));have hk1:=HK0.o.below hb1 HK0.o.lt;have hj1:=HJ0.o.below hb1 HJ0.o.lt;have MX21:Hid (LsI (qa6 rfC) 26 8 w1 A2 c2 x.parcel.fields):=lh (MX20.o.below (qa1 _) (qa0 _) hb1);have MY21:Hid (LsI (qa6 rfC) 26 8 w1 B2 d2 y.parcel.fields):=lh (MY20.o.below (qa1 _) (qa0 _) hb1);have MX31:Hid (LsI (LtR) 29 4 w1 A3 c3 x.parcel.mail):=lh (MX30.o.below (qg1) (ltR_rk) hb1);have MY31:Hid (LsI (LtR) 29 4 w1 B3 d3 y.parcel.mail):=lh (MY30.o.below (qg1) (ltR_rk) hb1);have MX41:Hid (LsI (qa6 waC) 65 12 w1 A4 c4 x.parcel.watches):=lh (MX40.o.below (qa1 _) (qa0 _) hb1);have MY41:Hid (LsI (qa6 waC) 65 12 w1 B4 d4 y.parcel.watches):=lh (MY40.o.below (qa1 _) (qa0 _) hb1);have MX51:Hid (LsI (qa6 inC) 99 3 w1 A5 c5 x.answer.inset):=lh (MX50.o.below (qa1 _) (qa0 _) hb1);have MY51:Hid (LsI (qa6 inC) 99 3 w1 B5 d5 y.answer.inset):=lh (MY50.o.below (qa1 _) (qa0 _) hb1);have MX61:Hid (LsI (qa6 ndC) 136 3 w1 A6 c6 x.claim.stubs):=lh (MX60.o.below (qa1 _) (qa0 _) hb1);have MY61:Hid (LsI (qa6 ndC) 136 3 w1 B6 d6 y.claim.stubs):=lh (MY60.o.below (qa1 _) (qa0 _) hb1);have MX71:Hid (LsI (qa6 ndC) 136 3 w1 A7 c7 x.claim.scions):=lh (MX70.o.below (qa1 _) (qa0 _) hb1);have MY71:Hid (LsI (qa6 ndC) 136 3 w1 B7 d7 y.claim.scions):=lh (MY70.o.below (qa1 _) (qa0 _) hb1);have MX81:Hid (LsI (qa6 ndC) 136 3 w1 A8 c8 x.claim.checks):=lh (MX80.o.below (qa1 _) (qa0 _) hb1);have MY81:Hid (LsI (qa6 ndC) 136 3 w1 B8 d8 y.claim.checks):=lh (MY80.o.below (qa1 _) (qa0 _) hb1);have HK1:=lh hk1;have HJ1:=lh hj1;clear hb1 hk1 hj1 kc5 xa0 ya0 xa1 ya1 xa2 ya2 xa3 ya3 xa4 ya4 xa5 ya5 xa6 ya6 xa7 ya7 xa8 ya8 xa9 ya9 xa10 ya10 xa11 ya11;have RX6:=qq1 (l:=[uv x.parcel.number,iv x.parcel.idm,iv x.parcel.ids,iv x.parcel.kind,iv x.parcel.cls,.slice A2 x.parcel.fields.length c2,.slice A3 x.parcel.mail.length c3,.slice A4 x.parcel.watches.length c4]) HK1.o 16 8 (by rw[HM.o];rfl);have RY6:=qq1 (l:=[uv y.parcel.number,iv y.parcel.idm,iv y.parcel.ids,iv y.parcel.kind,iv y.parcel.cls,.slice B2 y.parcel.fields.length d2,.slice B3 y.parcel.mail.length d3,.slice B4 y.parcel.watches.length d4]) HJ1.o 16 8 (by rw[HL.o];rfl);have GX6:=lh RX6;have GY6:=lh RY6;clear RX6 RY6
       cases h6:decide (x.parcel=y.parcel) with
       | true =>
        have kc6:=qn0 (x:=x.parcel) (y:=y.parcel) MX21.o MY21.o MX31.o MY31.o MX41.o MY41.o;rw[h6] at kc6;have H6:=lh h6;clear h6
        go_wp2_with (first | (refine qb1 rfl _ _ rfl g 16 rfl [uv x.parcel.number,iv x.parcel.idm,iv x.parcel.ids,iv x.parcel.kind,iv x.parcel.cls,.slice A2 x.parcel.fields.length c2,.slice A3 x.parcel.mail.length c3,.slice A4 x.parcel.watches.length c4] _ GX6.o rfl rfl rfl ?_) | (refine qb1 rfl _ _ rfl (g+1) 16 rfl [uv y.parcel.number,iv y.parcel.idm,iv y.parcel.ids,iv y.parcel.kind,iv y.parcel.cls,.slice B2 y.parcel.fields.length d2,.slice B3 y.parcel.mail.length d3,.slice B4 y.parcel.watches.length d4] _ GY6.o rfl rfl rfl ?_) | fail)
        refine kc6.mono ?_;rintro e w2 ⟨rfl,hb2⟩;have HB2:=lh (HB1.o.trans (hb2.mono HB1.o.size));have hk2:=HK1.o.below hb2 HK1.o.lt;have hj2:=HJ1.o.below hb2 HJ1.o.lt;have MX52:Hid (LsI (qa6 inC) 99 3 w2 A5 c5 x.answer.inset):=lh (MX51.o.below (qa1 _) (qa0 _) hb2);have MY52:Hid (LsI (qa6 inC) 99 3 w2 B5 d5 y.answer.inset):=lh (MY51.o.below (qa1 _) (qa0 _) hb2);have MX62:Hid (LsI (qa6 ndC) 136 3 w2 A6 c6 x.claim.stubs):=lh (MX61.o.below (qa1 _) (qa0 _) hb2);have MY62:Hid (LsI (qa6 ndC) 136 3 w2 B6 d6 y.claim.stubs):=lh (MY61.o.below (qa1 _) (qa0 _) hb2);have MX72:Hid (LsI (qa6 ndC) 136 3 w2 A7 c7 x.claim.scions):=lh (MX71.o.below (qa1 _) (qa0 _) hb2);have MY72:Hid (LsI (qa6 ndC) 136 3 w2 B7 d7 y.claim.scions):=lh (MY71.o.below (qa1 _) (qa0 _) hb2);have MX82:Hid (LsI (qa6 ndC) 136 3 w2 A8 c8 x.claim.checks):=lh (MX81.o.below (qa1 _) (qa0 _) hb2);have MY82:Hid (LsI (qa6 ndC) 136 3 w2 B8 d8 y.claim.checks):=lh (MY81.o.below (qa1 _) (qa0 _) hb2);have xc24:cl w2 g 24 (iv x.tm):=(hk2.cell 24).trans (by rw[HM.o];rfl);have xc25:cl w2 g 25 (iv x.ts):=(hk2.cell 25).trans (by rw[HM.o];rfl);have yc24:cl w2 (g+1) 24 (iv y.tm):=(hj2.cell 24).trans (by rw[HL.o];rfl);have yc25:cl w2 (g+1) 25 (iv y.ts):=(hj2.cell 25).trans (by rw[HL.o];rfl);have HK2:=lh hk2;have HJ2:=lh hj2;clear hb2 hk2 hj2 kc6
        cases h7:decide (x.tm=y.tm∧x.ts=y.ts) with
        | true =>
         have q7:∀ W,(binOp .eql 34 (.agg #[iv x.tm,iv x.ts]) (.agg #[iv y.tm,iv y.ts])).run Tryz.prog W=.ok (.bool true) W:=fun W=>by rw[eql_tr,h7]
         have H7:=lh h7;clear h7;have RX8:=qq1 (l:=[iv x.answer.machine,iv x.answer.owner,uv x.answer.number,iv x.answer.epoch,.bool x.answer.known,.bool x.answer.rooted,iv x.answer.last,.slice A5 x.answer.inset.length c5]) HK2.o 26 8 (by rw[HM.o];rfl);have RY8:=qq1 (l:=[iv y.answer.machine,iv y.answer.owner,uv y.answer.number,iv y.answer.epoch,.bool y.answer.known,.bool y.answer.rooted,iv y.answer.last,.slice B5 y.answer.inset.length d5]) HJ2.o 26 8 (by rw[HL.o];rfl);have GX8:=lh RX8;have GY8:=lh RY8;clear RX8 RY8
         cases h8:decide (x.answer=y.answer) with
         | true =>
          have kc8:=qn1 (x:=x.answer) (y:=y.answer) MX52.o MY52.o;rw[h8] at kc8;have H8:=lh h8;clear h8
          go_wp2_with (first | (refine qb1 rfl _ _ rfl g 26 rfl [iv x.answer.machine,iv x.answer.owner,uv x.answer.number,iv x.answer.epoch,.bool x.answer.known,.bool x.answer.rooted,iv x.answer.last,.slice A5 x.answer.inset.length c5] _ GX8.o rfl rfl rfl ?_) | (refine qb1 rfl _ _ rfl (g+1) 26 rfl [iv y.answer.machine,iv y.answer.owner,uv y.answer.number,iv y.answer.epoch,.bool y.answer.known,.bool y.answer.rooted,iv y.answer.last,.slice B5 y.answer.inset.length d5] _ GY8.o rfl rfl rfl ?_) | fail)
          refine kc8.mono ?_;rintro e w3 ⟨rfl,hb3⟩;have HB3:=lh (HB2.o.trans (hb3.mono HB2.o.size));have hk3:=HK2.o.below hb3 HK2.o.lt;have hj3:=HJ2.o.below hb3 HJ2.o.lt;have MX63:Hid (LsI (qa6 ndC) 136 3 w3 A6 c6 x.claim.stubs):=lh (MX62.o.below (qa1 _) (qa0 _) hb3);have MY63:Hid (LsI (qa6 ndC) 136 3 w3 B6 d6 y.claim.stubs):=lh (MY62.o.below (qa1 _) (qa0 _) hb3);have MX73:Hid (LsI (qa6 ndC) 136 3 w3 A7 c7 x.claim.scions):=lh (MX72.o.below (qa1 _) (qa0 _) hb3);have MY73:Hid (LsI (qa6 ndC) 136 3 w3 B7 d7 y.claim.scions):=lh (MY72.o.below (qa1 _) (qa0 _) hb3);have MX83:Hid (LsI (qa6 ndC) 136 3 w3 A8 c8 x.claim.checks):=lh (MX82.o.below (qa1 _) (qa0 _) hb3);have MY83:Hid (LsI (qa6 ndC) 136 3 w3 B8 d8 y.claim.checks):=lh (MY82.o.below (qa1 _) (qa0 _) hb3);have HK3:=lh hk3;have HJ3:=lh hj3;clear hb3 hk3 hj3 kc8 xc24 yc24 xc25 yc25;have RX9:=qq1 (l:=[iv x.claim.machine,iv x.claim.epoch,.slice A6 x.claim.stubs.length c6,.slice A7 x.claim.scions.length c7,.slice A8 x.claim.checks.length c8]) HK3.o 34 5 (by rw[HM.o];rfl);have RY9:=qq1 (l:=[iv y.claim.machine,iv y.claim.epoch,.slice B6 y.claim.stubs.length d6,.slice B7 y.claim.scions.length d7,.slice B8 y.claim.checks.length d8]) HJ3.o 34 5 (by rw[HL.o];rfl);have GX9:=lh RX9;have GY9:=lh RY9;clear RX9 RY9
          cases h9:decide (x.claim=y.claim) with
          | true =>
           have kc9:=qo7 (x:=x.claim) (y:=y.claim) MX63.o MY63.o MX73.o MY73.o MX83.o MY83.o;rw[h9] at kc9;have H9:=lh h9;clear h9
           go_wp2_with (first | (refine qb1 rfl _ _ rfl g 34 rfl [iv x.claim.machine,iv x.claim.epoch,.slice A6 x.claim.stubs.length c6,.slice A7 x.claim.scions.length c7,.slice A8 x.claim.checks.length c8] _ GX9.o rfl rfl rfl ?_) | (refine qb1 rfl _ _ rfl (g+1) 34 rfl [iv y.claim.machine,iv y.claim.epoch,.slice B6 y.claim.stubs.length d6,.slice B7 y.claim.scions.length d7,.slice B8 y.claim.checks.length d8] _ GY9.o rfl rfl rfl ?_) | fail)
           refine kc9.mono ?_;rintro e w4 ⟨rfl,hb4⟩;have HB4:=lh (HB3.o.trans (hb4.mono HB3.o.size));clear hb4 kc9
           go_wp2_with fail
           go_ret;refine⟨cgb ?_,HB4.o⟩;rw[HR.o,qs1]
           simp[H0.o,H1.o,H2.o,H3.o,H4.o,H5.o,H6.o,H7.o,H8.o,H9.o]
          | false =>
           have kc9:=qo7 (x:=x.claim) (y:=y.claim) MX63.o MY63.o MX73.o MY73.o MX83.o MY83.o;rw[h9] at kc9;have H9:=lh h9;clear h9
           go_wp2_with (first | (refine qb1 rfl _ _ rfl g 34 rfl [iv x.claim.machine,iv x.claim.epoch,.slice A6 x.claim.stubs.length c6,.slice A7 x.claim.scions.length c7,.slice A8 x.claim.checks.length c8] _ GX9.o rfl rfl rfl ?_) | (refine qb1 rfl _ _ rfl (g+1) 34 rfl [iv y.claim.machine,iv y.claim.epoch,.slice B6 y.claim.stubs.length d6,.slice B7 y.claim.scions.length d7,.slice B8 y.claim.checks.length d8] _ GY9.o rfl rfl rfl ?_) | fail)
           refine kc9.mono ?_;rintro e w4 ⟨rfl,hb4⟩;have HB4:=lh (HB3.o.trans (hb4.mono HB3.o.size));clear hb4 kc9
           go_wp2_with fail
           go_ret;refine⟨cgb ?_,HB4.o⟩;rw[HR.o,qs1]
           simp[H0.o,H1.o,H2.o,H3.o,H4.o,H5.o,H6.o,H7.o,H8.o,H9.o]
         | false =>
          have kc8:=qn1 (x:=x.answer) (y:=y.answer) MX52.o MY52.o;rw[h8] at kc8;have H8:=lh h8;clear h8
          go_wp2_with (first | (refine qb1 rfl _ _ rfl g 26 rfl [iv x.answer.machine,iv x.answer.owner,uv x.answer.number,iv x.answer.epoch,.bool x.answer.known,.bool x.answer.rooted,iv x.answer.last,.slice A5 x.answer.inset.length c5] _ GX8.o rfl rfl rfl ?_) | (refine qb1 rfl _ _ rfl (g+1) 26 rfl [iv y.answer.machine,iv y.answer.owner,uv y.answer.number,iv y.answer.epoch,.bool y.answer.known,.bool y.answer.rooted,iv y.answer.last,.slice B5 y.answer.inset.length d5] _ GY8.o rfl rfl rfl ?_) | fail)
          refine kc8.mono ?_;rintro e w3 ⟨rfl,hb3⟩;have HB3:=lh (HB2.o.trans (hb3.mono HB2.o.size));clear hb3 kc8 xc24 yc24 xc25 yc25
          go_wp2_with fail
          go_ret;refine⟨cgb ?_,HB3.o⟩;rw[HR.o,qs1]
          simp[H0.o,H1.o,H2.o,H3.o,H4.o,H5.o,H6.o,H7.o,H8.o]
        | false =>
         have q7:∀ W,(binOp .eql 34 (.agg #[iv x.tm,iv x.ts]) (.agg #[iv y.tm,iv y.ts])).run Tryz.prog W=.ok (bf) W:=fun W=>by rw[eql_tr,h7]
         have H7:=lh h7;clear h7
         go_wp2_with fail
         go_ret;refine⟨cgb ?_,HB2.o⟩;rw[HR.o,qs1]
         simp[H0.o,H1.o,H2.o,H3.o,H4.o,H5.o,H6.o,H7.o]
       | false =>
        have kc6:=qn0 (x:=x.parcel) (y:=y.parcel) MX21.o MY21.o MX31.o MY31.o MX41.o MY41.o;rw[h6] at kc6;have H6:=lh h6;clear h6
        go_wp2_with (first | (refine qb1 rfl _ _ rfl g 16 rfl [uv x.parcel.number,iv x.parcel.idm,iv x.parcel.ids,iv x.parcel.kind,iv x.parcel.cls,.slice A2 x.parcel.fields.length c2,.slice A3 x.parcel.mail.length c3,.slice A4 x.parcel.watches.length c4] _ GX6.o rfl rfl rfl ?_) | (refine qb1 rfl _ _ rfl (g+1) 16 rfl [uv y.parcel.number,iv y.parcel.idm,iv y.parcel.ids,iv y.parcel.kind,iv y.parcel.cls,.slice B2 y.parcel.fields.length d2,.slice B3 y.parcel.mail.length d3,.slice B4 y.parcel.watches.length d4] _ GY6.o rfl rfl rfl ?_) | fail)
        refine kc6.mono ?_;rintro e w2 ⟨rfl,hb2⟩;have HB2:=lh (HB1.o.trans (hb2.mono HB1.o.size));clear hb2 kc6
        go_wp2_with fail
        go_ret;refine⟨cgb ?_,HB2.o⟩;rw[HR.o,qs1]
        simp[H0.o,H1.o,H2.o,H3.o,H4.o,H5.o,H6.o]
      | false =>
       have kc5:=qj6 (x:=x.letter) (y:=y.letter) MX10.o MY10.o;rw[h5] at kc5;have H5:=lh h5;clear h5
       go_wp2_with (first | (refine qb1 rfl _ _ rfl g 12 rfl [iv x.letter.idm,iv x.letter.ids,.string x.letter.meth,.slice A1 x.letter.args.length c1] _ GX5.o rfl rfl rfl ?_) | (refine qb1 rfl _ _ rfl (g+1) 12 rfl [iv y.letter.idm,iv y.letter.ids,.string y.letter.meth,.slice B1 y.letter.args.length d1] _ GY5.o rfl rfl rfl ?_) | fail)
       refine kc5.mono ?_;rintro e w1 ⟨rfl,hb1⟩;have HB1:=lh (HB0.o.trans (hb1.mono HB0.o.size));clear hb1 kc5 xa0 ya0 xa1 ya1 xa2 ya2 xa3 ya3 xa4 ya4 xa5 ya5 xa6 ya6 xa7 ya7 xa8 ya8 xa9 ya9 xa10 ya10 xa11 ya11
       go_wp2_with fail
       go_ret;refine⟨cgb ?_,HB1.o⟩;rw[HR.o,qs1]
       simp[H0.o,H1.o,H2.o,H3.o,H4.o,H5.o]
     | false =>
      have q4:∀ W,(binOp .eql 26 (.agg #[iv x.ref.kind,iv x.ref.int,iv x.ref.owner,uv x.ref.number,iv x.ref.idm,iv x.ref.ids,iv x.ref.cls,.bool x.ref.weak]) (.agg #[iv y.ref.kind,iv y.ref.int,iv y.ref.owner,uv y.ref.number,iv y.ref.idm,iv y.ref.ids,iv y.ref.cls,.bool y.ref.weak])).run Tryz.prog W=.ok (bf) W:=fun W=>by rw[eql_rfs,h4]
      have H4:=lh h4;clear h4
      go_wp2_with fail
      go_ret;refine⟨cgb ?_,HB0.o⟩;rw[HR.o,qs1]
      simp[H0.o,H1.o,H2.o,H3.o,H4.o]
    | false =>
     have q3:(x.name.toList == y.name.toList)=false:=by rw[qr5];exact h3
     have H3:=lh h3;clear h3
     go_wp2_with fail
     go_ret;refine⟨cgb ?_,HB0.o⟩;rw[HR.o,qs1]
     simp[H0.o,H1.o,H2.o,H3.o]
   | false =>
    have q2:(x.asker == y.asker)=false:=h2;have H2:=lh h2;clear h2
    go_wp2_with fail
    go_ret;refine⟨cgb ?_,HB0.o⟩;rw[HR.o,qs1]
    simp[H0.o,H1.o,H2.o]
  | false =>
   have q1:(x.number == y.number)=false:=h1;have H1:=lh h1;clear h1
   go_wp2_with fail
   go_ret;refine⟨cgb ?_,HB0.o⟩;rw[HR.o,qs1]
   simp[H0.o,H1.o]
 | false =>
  have q0:(x.kind == y.kind)=false:=h0;have H0:=lh h0;clear h0
  go_wp2_with fail
  go_ret;refine⟨cgb ?_,HB0.o⟩;rw[HR.o,qs1]
  simp[H0.o]
end
section
open Go.RowKit Go.Sort
attribute [local go_sem] Oper.semAt_some
def qt5 (p:Lt):Bool:=decide (p.args.length≤20) && decide (p.meth.size≤100)
def fewWa (p:Wa):Bool:=decide (p.meth.size≤100)
def fewV (x:Ms):Bool:=decide (x.name.size≤100) && decide (x.letter.meth.size≤100) && decide (x.letter.args.length≤20) && decide (x.parcel.fields.length≤40) && decide (x.parcel.mail.length≤20) && decide (x.parcel.watches.length≤20) && decide (x.answer.inset.length≤40) && decide (x.claim.stubs.length+x.claim.scions.length+x.claim.checks.length≤60) && x.parcel.mail.all qt5 && x.parcel.watches.all fewWa
theorem qg4 {n k:Nat} {b:Bool} (h:decide (n≤k)=b):decide ((k:Int) < (n:Int))=!b:=by
 subst h
 by_cases h:n≤k
 ·rw[decide_eq_true h,decide_eq_false (by omega)];rfl
 ·rw[decide_eq_false h,decide_eq_true (by omega)];rfl
theorem gt_dec3 {a b c k:Nat} {q:Bool} (h:decide (a+b+c≤k)=q):decide ((k:Int) < (a:Int)+(b:Int)+(c:Int))=!q:=by
 subst h
 by_cases h:a+b+c≤k
 ·rw[decide_eq_true h,decide_eq_false (by omega)];rfl
 ·rw[decide_eq_false h,decide_eq_true (by omega)];rfl
theorem Few_any {w:World} {x:Ms} {r:List Value} (h:MsI w x r):Calls Tryz.prog 11 #[.agg r.toArray] w (qe7 w (fewV x)):=by
 obtain⟨A1,c1,A2,c2,A3,c3,A4,c4,A5,c5,A6,c6,A7,c7,A8,c8,hr,hx1,hx2,hx3,hx4,hx5,hx6,hx7,hx8⟩:=h
 obtain⟨M,hM⟩:∃ M,M=r.toArray:=⟨_,rfl⟩
 rw[← hM];rw[hr] at hM;clear hr;have HM:=lh hM
 obtain⟨R,hR⟩:∃ R,R=fewV x:=⟨_,rfl⟩
 rw[← hR];have HR:=lh hR
 obtain⟨W,hW⟩:∃ W,W=w.alloc (.cells M 42):=⟨_,rfl⟩
 obtain⟨g,hg⟩:∃ g,g=w.heap.size:=⟨_,rfl⟩
 obtain⟨W3,hW3⟩:∃ W3,W3=W.alloc (.cells #[uv x.parcel.number,iv x.parcel.idm,iv x.parcel.ids,iv x.parcel.kind,iv x.parcel.cls,.slice A2 x.parcel.fields.length c2,.slice A3 x.parcel.mail.length c3,.slice A4 x.parcel.watches.length c4] 33):=⟨_,rfl⟩
 have hb0:bw w W:=by rw[hW];exact qa2 _ _
 have hk0:Bk W g 42 M:=by rw[hW,hg];exact Bk.new _ _ _
 have hz:W.heap.size=g+1:=by rw[hW,hg];simp
 have hb1:bw W W3:=by rw[hW3];exact qa2 _ _
 have hj0:Bk W3 (g+1) 33 #[uv x.parcel.number,iv x.parcel.idm,iv x.parcel.ids,iv x.parcel.kind,iv x.parcel.cls,.slice A2 x.parcel.fields.length c2,.slice A3 x.parcel.mail.length c3,.slice A4 x.parcel.watches.length c4]:=by rw[hW3,← hz];exact Bk.new _ _ _
 have hk1:=hk0.below hb1 hk0.lt;have HB3:=lh (hb0.trans (hb1.mono hb0.size));have HK3:=lh hk1;have HJ3:=lh hj0;have MX3:Hid (LsI (LtR) 29 4 W3 A3 c3 x.parcel.mail):=lh ((show LsI (LtR) 29 4 w A3 c3 x.parcel.mail from hx3).below (qg1) (ltR_rk) HB3.o);have MX4:Hid (LsI (qa6 waC) 65 12 W3 A4 c4 x.parcel.watches):=lh ((show LsI (qa6 waC) 65 12 w A4 c4 x.parcel.watches from hx4).below (qa1 _) (qa0 _) HB3.o);have l6:=LsI.le (show LsI (qa6 ndC) 136 3 w A6 c6 x.claim.stubs from hx6);have l6b:=l6.2;have l7:=LsI.le (show LsI (qa6 ndC) 136 3 w A7 c7 x.claim.scions from hx7);have l7b:=l7.2;have l8:=LsI.le (show LsI (qa6 ndC) 136 3 w A8 c8 x.claim.checks from hx8);have l8b:=l8.2;have l3:=LsI.le (show LsI (LtR) 29 4 w A3 c3 x.parcel.mail from hx3);have l3a:=l3.1;have l3b:=l3.2;have l4:=LsI.le (show LsI (qa6 waC) 65 12 w A4 c4 x.parcel.watches from hx4);have l4a:=l4.1;have l4b:=l4.2;have b16:cl W g 16 (uv x.parcel.number):=(hk0.cell 16).trans (by rw[HM.o];rfl);have b17:cl W g 17 (iv x.parcel.idm):=(hk0.cell 17).trans (by rw[HM.o];rfl);have b18:cl W g 18 (iv x.parcel.ids):=(hk0.cell 18).trans (by rw[HM.o];rfl);have b19:cl W g 19 (iv x.parcel.kind):=(hk0.cell 19).trans (by rw[HM.o];rfl);have b20:cl W g 20 (iv x.parcel.cls):=(hk0.cell 20).trans (by rw[HM.o];rfl);have b21:cl W g 21 (.slice A2 x.parcel.fields.length c2):=(hk0.cell 21).trans (by rw[HM.o];rfl);have b22:cl W g 22 (.slice A3 x.parcel.mail.length c3):=(hk0.cell 22).trans (by rw[HM.o];rfl);have b23:cl W g 23 (.slice A4 x.parcel.watches.length c4):=(hk0.cell 23).trans (by rw[HM.o];rfl);clear l3 l4 l6 l7 l8 hb0 hk0 hb1 hj0 hk1 hx1 hx2 hx3 hx4 hx5 hx6 hx7 hx8 hM hR
 go_enter Tryz.func11,Tryz.ntmps11
 go_upto_region 1 with fail
 rw[← hW,← hg];clear hW hg;have HZ:=lh hz;have HW3:=lh hW3;clear hz hW3
 go_upto_region 2 with fail
 rw[HZ.o,← HW3.o];clear HZ HW3 b16 b17 b18 b19 b20 b21 b22 b23;have a3:cl W3 g 3 (.string x.name):=(HK3.o.cell 3).trans (by rw[HM.o];rfl);have a14:cl W3 g 14 (.string x.letter.meth):=(HK3.o.cell 14).trans (by rw[HM.o];rfl);have a15:cl W3 g 15 (.slice A1 x.letter.args.length c1):=(HK3.o.cell 15).trans (by rw[HM.o];rfl);have a33:cl W3 g 33 (.slice A5 x.answer.inset.length c5):=(HK3.o.cell 33).trans (by rw[HM.o];rfl);have a36:cl W3 g 36 (.slice A6 x.claim.stubs.length c6):=(HK3.o.cell 36).trans (by rw[HM.o];rfl);have a37:cl W3 g 37 (.slice A7 x.claim.scions.length c7):=(HK3.o.cell 37).trans (by rw[HM.o];rfl);have a38:cl W3 g 38 (.slice A8 x.claim.checks.length c8):=(HK3.o.cell 38).trans (by rw[HM.o];rfl);have p0:cl W3 (g+1) 0 (uv x.parcel.number):=HJ3.o.cell 0;have p1:cl W3 (g+1) 1 (iv x.parcel.idm):=HJ3.o.cell 1;have p2:cl W3 (g+1) 2 (iv x.parcel.ids):=HJ3.o.cell 2;have p3:cl W3 (g+1) 3 (iv x.parcel.kind):=HJ3.o.cell 3;have p4:cl W3 (g+1) 4 (iv x.parcel.cls):=HJ3.o.cell 4;have p5:cl W3 (g+1) 5 (.slice A2 x.parcel.fields.length c2):=HJ3.o.cell 5;have p6:cl W3 (g+1) 6 (.slice A3 x.parcel.mail.length c3):=HJ3.o.cell 6;have p7:cl W3 (g+1) 7 (.slice A4 x.parcel.watches.length c4):=HJ3.o.cell 7
 cases h0:decide (x.name.size≤100) with
 | true =>
  have q0:decide ((100:Int) < (x.name.size:Int))=false:=qg4 (k:=100) h0;have H0:=lh h0;clear h0
  cases h1:decide (x.letter.meth.size≤100) with
  | true =>
   have q1:decide ((100:Int) < (x.letter.meth.size:Int))=false:=qg4 (k:=100) h1;have H1:=lh h1;clear h1
   cases h2:decide (x.letter.args.length≤20) with
   | true =>
    have q2:decide ((20:Int) < (x.letter.args.length:Int))=false:=qg4 (k:=20) h2;have H2:=lh h2;clear h2
    cases h3:decide (x.parcel.fields.length≤40) with
    | true =>
     have q3:decide ((40:Int) < (x.parcel.fields.length:Int))=false:=qg4 (k:=40) h3;have H3:=lh h3;clear h3
     cases h4:decide (x.parcel.mail.length≤20) with
     | true =>
      have q4:decide ((20:Int) < (x.parcel.mail.length:Int))=false:=qg4 (k:=20) h4;have H4:=lh h4;clear h4
      cases h5:decide (x.parcel.watches.length≤20) with
      | true =>
       have q5:decide ((20:Int) < (x.parcel.watches.length:Int))=false:=qg4 (k:=20) h5;have H5:=lh h5;clear h5
       cases h6:decide (x.answer.inset.length≤40) with
       | true =>
        have q6:decide ((40:Int) < (x.answer.inset.length:Int))=false:=qg4 (k:=40) h6;have H6:=lh h6;clear h6
        cases h7:decide (x.claim.stubs.length+x.claim.scions.length+x.claim.checks.length≤60) with
        | true =>
         have q7:decide ((60:Int) < (x.claim.stubs.length:Int)+(x.claim.scions.length:Int)+(x.claim.checks.length:Int))=false:=gt_dec3 (k:=60) h7;have H7:=lh h7;clear h7
         go_wp2_with fail
         clear a3 a14 a15 a33 a36 a37 a38 p0 p1 p2 p3 p4 p5 p6 p7
         go_loopw [4] (fun ix wr=>∃ j:Nat,ix=iv (j:Int)∧j≤x.parcel.mail.length∧(x.parcel.mail.take j).all qt5=true∧bw W3 wr) (fun ix _=>x.parcel.mail.length - (intOf ix).toNat)
         case atStart=>exact⟨0,rfl,Nat.zero_le _,rfl,Below.refl _ _⟩
         case round =>
          obtain⟨j,rfl,hj,ht,hbl⟩:=hrel;have HT:=lh (And.intro ht hbl);have zx:=(HJ3.o.below hbl HJ3.o.lt).cell 6;simp only[List.getElem?_toArray,List.getElem?_cons_zero,List.getElem?_cons_succ] at zx;clear ht hbl
          by_cases hlt:j < x.parcel.mail.length
          ·obtain⟨p,hp⟩:∃ p,x.parcel.mail[j]?=some p:=⟨_,List.getElem?_eq_getElem hlt⟩
           obtain⟨ba,oa,ra,hA,_,hra,hca⟩:=MX3.o.get hp;subst hA;have HP:=lh hp;obtain⟨Ap,cp,hra,_⟩:=hra;have e2:cl wr ba (oa+j*4+2) (.string p.meth):=(qa9 HT.o.2).1 _ _ (qa4 (hca 2 _ (by rw[hra];rfl))) |>.trans (hca 2 _ (by rw[hra];rfl));have e3:cl wr ba (oa+j*4+3) (.slice Ap p.args.length cp):=(qa9 HT.o.2).1 _ _ (qa4 (hca 3 _ (by rw[hra];rfl))) |>.trans (hca 3 _ (by rw[hra];rfl));have hjc:j < c3:=by omega
           clear hp hca hra
           cases k0:decide (p.args.length≤20) with
           | true =>
            have s0:decide ((20:Int) < (p.args.length:Int))=false:=qg4 (k:=20) k0;have K0:=lh k0;clear k0
            cases k1:decide (p.meth.size≤100) with
            | true =>
             have s1:decide ((100:Int) < (p.meth.size:Int))=false:=qg4 (k:=100) k1;have K1:=lh k1;clear k1;have HQ:Hid (qt5 p=true):=lh (by unfold qt5;simp[K0.o,K1.o])
             go_wp2_with fail
             go_roundw
             case rel=>exact⟨j+1,by go_num,hlt,by rw[List.take_add_one,HP.o,List.all_append,HT.o.1];simp[HQ.o],HT.o.2⟩
             case measure=>simp[intOf];omega
            | false =>
             have s1:decide ((100:Int) < (p.meth.size:Int))=true:=qg4 (k:=100) k1;have K1:=lh k1;clear k1;have HQ:Hid (x.parcel.mail.all qt5=false):=lh (by rw[List.all_eq_false];exact⟨p,List.mem_of_getElem? HP.o,by unfold qt5;simp[K1.o]⟩)
             go_wp2_with fail
             go_ret;refine⟨cgb ?_,HB3.o.trans (HT.o.2.mono HB3.o.size)⟩;rw[HR.o];unfold fewV
             simp[HQ.o]
           | false =>
            have s0:decide ((20:Int) < (p.args.length:Int))=true:=qg4 (k:=20) k0;have K0:=lh k0;clear k0;have HQ:Hid (x.parcel.mail.all qt5=false):=lh (by rw[List.all_eq_false];exact⟨p,List.mem_of_getElem? HP.o,by unfold qt5;simp[K0.o]⟩)
            go_wp2_with fail
            go_ret;refine⟨cgb ?_,HB3.o.trans (HT.o.2.mono HB3.o.size)⟩;rw[HR.o];unfold fewV
            simp[HQ.o]
          ·obtain rfl:j=x.parcel.mail.length:=by omega
           have HE3:Hid (x.parcel.mail.all qt5=true):=lh (by have:=HT.o.1;rw[List.take_length] at this;exact this);clear hlt hj
           obtain⟨wm,rfl⟩:∃ wm:World,wm=wr:=⟨_,rfl⟩
           have HBm:=lh (HB3.o.trans (HT.o.2.mono HB3.o.size));have HJm:=lh (HJ3.o.below HT.o.2 HJ3.o.lt);have MX4m:Hid (LsI (qa6 waC) 65 12 wm A4 c4 x.parcel.watches):=lh (MX4.o.below (qa1 _) (qa0 _) HT.o.2);have vx:=HJm.o.cell 7;simp only[List.getElem?_toArray,List.getElem?_cons_zero,List.getElem?_cons_succ] at vx
           go_wp2_with fail
           clear vx zx
           go_loopw [5] (fun ix wr=>∃ j:Nat,ix=iv (j:Int)∧j≤x.parcel.watches.length∧(x.parcel.watches.take j).all fewWa=true∧bw wm wr) (fun ix _=>x.parcel.watches.length - (intOf ix).toNat)
           case atStart=>exact⟨0,rfl,Nat.zero_le _,rfl,Below.refl _ _⟩
           case round =>
            obtain⟨j,rfl,hj,ht,hbl⟩:=hrel;have HT:=lh (And.intro ht hbl);have zx:=(HJm.o.below hbl HJm.o.lt).cell 7;simp only[List.getElem?_toArray,List.getElem?_cons_zero,List.getElem?_cons_succ] at zx;clear ht hbl
            by_cases hlt:j < x.parcel.watches.length
            ·obtain⟨p,hp⟩:∃ p,x.parcel.watches[j]?=some p:=⟨_,List.getElem?_eq_getElem hlt⟩
             obtain⟨ba,oa,ra,hA,_,hra,hca⟩:=MX4m.o.get hp;subst hA;have HP:=lh hp;have e2:cl wr ba (oa+j*12+2) (.string p.meth):=(qa9 HT.o.2).1 _ _ (qa4 (hca 2 _ (by rw[hra];rfl))) |>.trans (hca 2 _ (by rw[hra];rfl));have hjc:j < c4:=by omega
             clear hp hca hra
             cases k0:decide (p.meth.size≤100) with
             | true =>
              have s0:decide ((100:Int) < (p.meth.size:Int))=false:=qg4 (k:=100) k0;have K0:=lh k0;clear k0;have HQ:Hid (fewWa p=true):=lh (by unfold fewWa;simp[K0.o])
              go_wp2_with fail
              go_roundw
              case rel=>exact⟨j+1,by go_num,hlt,by rw[List.take_add_one,HP.o,List.all_append,HT.o.1];simp[HQ.o],HT.o.2⟩
              case measure=>simp[intOf];omega
             | false =>
              have s0:decide ((100:Int) < (p.meth.size:Int))=true:=qg4 (k:=100) k0;have K0:=lh k0;clear k0;have HQ:Hid (x.parcel.watches.all fewWa=false):=lh (by rw[List.all_eq_false];exact⟨p,List.mem_of_getElem? HP.o,by unfold fewWa;simp[K0.o]⟩)
              go_wp2_with fail
              go_ret;refine⟨cgb ?_,HBm.o.trans (HT.o.2.mono HBm.o.size)⟩;rw[HR.o];unfold fewV
              simp[HQ.o]
            ·obtain rfl:j=x.parcel.watches.length:=by omega
             have HE4:Hid (x.parcel.watches.all fewWa=true):=lh (by have:=HT.o.1;rw[List.take_length] at this;exact this);clear hlt hj
             go_wp2_with fail
             go_ret;refine⟨cgb ?_,HBm.o.trans (HT.o.2.mono HBm.o.size)⟩;rw[HR.o];unfold fewV
             simp[H0.o,H1.o,H2.o,H3.o,H4.o,H5.o,H6.o,H7.o,HE3.o,HE4.o]
        | false =>
         have q7:decide ((60:Int) < (x.claim.stubs.length:Int)+(x.claim.scions.length:Int)+(x.claim.checks.length:Int))=true:=gt_dec3 (k:=60) h7;have H7:=lh h7;clear h7
         go_wp2_with fail
         go_ret;refine⟨cgb ?_,HB3.o⟩;rw[HR.o];unfold fewV
         simp[H0.o,H1.o,H2.o,H3.o,H4.o,H5.o,H6.o,H7.o]
       | false =>
        have q6:decide ((40:Int) < (x.answer.inset.length:Int))=true:=qg4 (k:=40) h6;have H6:=lh h6;clear h6
        go_wp2_with fail
        go_ret;refine⟨cgb ?_,HB3.o⟩;rw[HR.o];unfold fewV
        simp[H0.o,H1.o,H2.o,H3.o,H4.o,H5.o,H6.o]
      | false =>
       have q5:decide ((20:Int) < (x.parcel.watches.length:Int))=true:=qg4 (k:=20) h5;have H5:=lh h5;clear h5
       go_wp2_with fail
       go_ret;refine⟨cgb ?_,HB3.o⟩;rw[HR.o];unfold fewV
       simp[H0.o,H1.o,H2.o,H3.o,H4.o,H5.o]
     | false =>
      have q4:decide ((20:Int) < (x.parcel.mail.length:Int))=true:=qg4 (k:=20) h4;have H4:=lh h4;clear h4
      go_wp2_with fail
      go_ret;refine⟨cgb ?_,HB3.o⟩;rw[HR.o];unfold fewV
      simp[H0.o,H1.o,H2.o,H3.o,H4.o]
    | false =>
     have q3:decide ((40:Int) < (x.parcel.fields.length:Int))=true:=qg4 (k:=40) h3;have H3:=lh h3;clear h3
     go_wp2_with fail
     go_ret;refine⟨cgb ?_,HB3.o⟩;rw[HR.o];unfold fewV
     simp[H0.o,H1.o,H2.o,H3.o]
   | false =>
    have q2:decide ((20:Int) < (x.letter.args.length:Int))=true:=qg4 (k:=20) h2;have H2:=lh h2;clear h2
    go_wp2_with fail
    go_ret;refine⟨cgb ?_,HB3.o⟩;rw[HR.o];unfold fewV
    simp[H0.o,H1.o,H2.o]
  | false =>
   have q1:decide ((100:Int) < (x.letter.meth.size:Int))=true:=qg4 (k:=100) h1;have H1:=lh h1;clear h1
   go_wp2_with fail
   go_ret;refine⟨cgb ?_,HB3.o⟩;rw[HR.o];unfold fewV
   simp[H0.o,H1.o]
 | false =>
  have q0:decide ((100:Int) < (x.name.size:Int))=true:=qg4 (k:=100) h0;have H0:=lh h0;clear h0
  go_wp2_with fail
  go_ret;refine⟨cgb ?_,HB3.o⟩;rw[HR.o];unfold fewV
  simp[H0.o]
end
section
open Go.RowKit Go.Sort
attribute [local go_sem] Oper.semAt_some
def idT (a b:Int):ByteArray:=if idV a b=true then ⟨#[109]⟩++dec a++⟨#[58]⟩++dec b else ⟨#[]⟩
theorem qc4 {w w3:World} (h:∃ p:Regrown,w3=grow (redrawn w p.d) p.os):bw w w3:=by obtain⟨pp,rfl⟩:=h;exact below_regrown _ _ _
theorem qw0 {a b:Int} (ha:I64 a) (hb:I64 b) (w:World) (ht:Tb w):Calls Tryz.prog 77 #[.agg #[iv a,iv b]] w (TxP w (idT a b)):=by
 obtain⟨W,hW⟩:∃ W,W=w.alloc (.cells #[iv a,iv b] 24):=⟨_,rfl⟩
 obtain⟨g,hg⟩:∃ g,g=w.heap.size:=⟨_,rfl⟩
 have hb0:bw w W:=by rw[hW];exact qa2 _ _
 have hk0:Bk W g 24 #[iv a,iv b]:=by rw[hW,hg];exact Bk.new _ _ _
 have a0:cl W g 0 (iv a):=hk0.cell 0;have a1:cl W g 1 (iv b):=hk0.cell 1;have cV:=qv9 W a b;have HT:=lh (ht.below hb0);have HB0:=lh hb0;have HK0:=lh hk0
 obtain⟨T,hT⟩:∃ T,T=idT a b:=⟨_,rfl⟩
 rw[← hT];unfold idT at hT;have HAB:=lh (And.intro ha hb);clear hb0 hk0 ht ha hb
 go_enter Tryz.func77,Tryz.ntmps77
 go_upto_region 1 with fail
 rw[← hW,← hg];clear hW hg
 cases hv:idV a b with
 | false =>
  rw[hv] at cV hT;have HTE:Hid (T=⟨#[]⟩):=lh hT;clear hT hv
  go_wp2_with fail
  refine cV.mono ?_;rintro e w2 ⟨rfl,hb2⟩
  go_wp2_with fail
  go_ret;rw[HTE.o];exact⟨rfl,HB0.o.trans (hb2.mono HB0.o.size)⟩
 | true =>
  rw[hv,if_pos rfl] at hT;rw[hv] at cV;have HTE:=lh hT;clear hT hv
  go_wp2_with fail
  refine cV.mono ?_;rintro e w2 ⟨rfl,hb2⟩;have HB2:=lh (HB0.o.trans (hb2.mono HB0.o.size));have hk2:=HK0.o.below hb2 HK0.o.lt;have k0:=cell_regrown (hk2.cell 0);have k1:=cell_regrown (hk2.cell 1);have cA:=fun dd os=>Calls.regrown_of (w:=w2) (d:=dd) (os:=os) (qh3 a HAB.o.1.1 HAB.o.1.2 _ ((HT.o.below hb2).below (below_regrown w2 dd os)));have cB:=fun dd os=>Calls.regrown_of (w:=w2) (d:=dd) (os:=os) (qh3 b HAB.o.2.1 HAB.o.2.2 _ ((HT.o.below hb2).below (below_regrown w2 dd os)));have sa:=qd2 a HAB.o.1.1 HAB.o.1.2;have sb:=qd2 b HAB.o.2.1 HAB.o.2.2;have s1:¬ 9223372036854775807 < 1+(dec a).size:=by omega
  have s2:¬ 9223372036854775807 < 1+(dec a).size+1:=by omega
  have s3:¬ 9223372036854775807 < 1+(dec a).size+1+(dec b).size:=by omega
  clear hb2 hk2 cV a0 a1
  go_upto_region 3 with fail
  refine wp_region_quiet_below (by kernel_rfl) (by kernel_rfl) ?_
  repeat (quiet_step (first | exact cA _ _ | exact cB _ _))
  refine wpQuiet_nil ?_;intro w3 hw';have HB3:=lh (HB2.o.trans ((qc4 hw').mono HB2.o.size));clear hw' cA cB k0 k1
  go_wp2_with fail
  go_ret;rw[HTE.o];exact⟨rfl,HB3.o⟩
end
section
open Go.RowKit Go.Sort
attribute [local go_sem] Oper.semAt_some
def rfB (x:Rf):ByteArray:=if x.kind=1 then dec x.int else if x.kind=2 then ⟨#[104,111,109,101,32]⟩++dec x.number else if x.kind=3 then ⟨#[111,117,116,32]⟩++dec x.owner++⟨#[47]⟩++dec x.number++⟨#[32]⟩++idT x.idm x.ids else ⟨#[110,105,108]⟩
def rfT (x:Rf):ByteArray:=if x.weak=true then ⟨#[119,101,97,107,32]⟩++rfB x else rfB x
theorem qi1 {a b:Int} (ha:I64 a) (hb:I64 b):(idT a b).size≤44:=by
 unfold idT
 split
 ·have:=qd2 a ha.1 ha.2;have:=qd2 b hb.1 hb.2;simp only[ByteArray.size_append]
  show 1+(dec a).size+1+(dec b).size≤44
  omega
 ·show 0≤44;omega
theorem rfB_size {x:Rf} (h:rfP x):(rfB x).size≤92:=by
 obtain⟨h1,h2,h3,h4,h5,h6,h7⟩:=h;unfold rfB
 split
 ·have:=qd2 x.int h4.1 h4.2;omega
 ·split
  ·have:=qb3 h5.1 h5.2;simp only[ByteArray.size_append]
   show 5+(dec x.number).size≤92
   omega
  ·split
   ·have:=qb3 h5.1 h5.2;have:=qd2 x.owner h2.1 h2.2;have:=qi1 h6 h7;simp only[ByteArray.size_append]
    show 4+(dec x.owner).size+1+(dec x.number).size+1+(idT x.idm x.ids).size≤92
    omega
   ·show 3≤92;omega
theorem qi7 {x:Rf} (h:rfP x):(rfT x).size≤97:=by
 have:=rfB_size h;unfold rfT
 split
 ·rw[ByteArray.size_append]
  show 5+(rfB x).size≤97
  omega
 ·omega
theorem qn6 {x:Rf} (h:rfP x) (w:World) (ht:Tb w):Calls Tryz.prog 105 #[.agg #[iv x.kind,iv x.int,iv x.owner,uv x.number,iv x.idm,iv x.ids,iv x.cls,.bool x.weak]] w (TxP w (rfT x)):=by
 obtain⟨W,hW⟩:∃ W,W=w.alloc (.cells #[iv x.kind,iv x.int,iv x.owner,uv x.number,iv x.idm,iv x.ids,iv x.cls,.bool x.weak] 26):=⟨_,rfl⟩
 obtain⟨g,hg⟩:∃ g,g=w.heap.size:=⟨_,rfl⟩
 have hb0:bw w W:=by rw[hW];exact qa2 _ _
 have hk0:Bk W g 26 #[iv x.kind,iv x.int,iv x.owner,uv x.number,iv x.idm,iv x.ids,iv x.cls,.bool x.weak]:=by rw[hW,hg];exact Bk.new _ _ _
 have a0:cl W g 0 (iv x.kind):=hk0.cell 0;have a1:cl W g 1 (iv x.int):=hk0.cell 1;have a2:cl W g 2 (iv x.owner):=hk0.cell 2;have a3:cl W g 3 (uv x.number):=hk0.cell 3;have a4:cl W g 4 (iv x.idm):=hk0.cell 4;have a5:cl W g 5 (iv x.ids):=hk0.cell 5;have a6:cl W g 6 (iv x.cls):=hk0.cell 6;have a7:cl W g 7 (.bool x.weak):=hk0.cell 7;have HT:=lh (ht.below hb0);have HB0:=lh hb0;have HK0:=lh hk0
 obtain⟨T,hT⟩:∃ T,T=rfT x:=⟨_,rfl⟩
 rw[← hT];have HTE:=lh hT;have HX:=lh h;have sT:=rfB_size h;clear hb0 hk0 ht h hT
 go_enter Tryz.func105,Tryz.ntmps105
 go_upto_region 1 with fail
 rw[← hW,← hg];clear hW hg
 by_cases k1:x.kind=1
 ·have hB:rfB x=dec x.int:=by unfold rfB;rw[if_pos k1]
  have HBB:=lh hB;rw[hB] at sT;have s1:¬ 9223372036854775807 < 5+(dec x.int).size:=by omega
  rw[k1] at a0;have cF:=FormatInt_any x.int HX.o.2.2.2.1.1 HX.o.2.2.2.1.2 W HT.o;clear hB k1
  go_wp2_with fail
  refine cF.mono ?_;rintro e w2 ⟨rfl,hb2⟩;have HB2:=lh (HB0.o.trans (hb2.mono HB0.o.size));have d7:cl w2 g 7 (.bool x.weak):=(HK0.o.below hb2 HK0.o.lt).cell 7;clear cF hb2 a0 a1 a2 a3 a4 a5 a6 a7
  cases hw:x.weak with
  | true =>
   rw[hw] at d7;have HE:Hid (T=⟨#[119,101,97,107,32]⟩++dec x.int):=lh (by rw[HTE.o];unfold rfT;rw[hw,if_pos rfl,HBB.o]);clear hw
   go_wp2_with fail
   go_ret;rw[HE.o];exact⟨rfl,HB2.o⟩
  | false =>
   rw[hw] at d7;have HE:Hid (T=dec x.int):=lh (by rw[HTE.o];unfold rfT;rw[hw,if_neg (by decide),HBB.o]);clear hw
   go_wp2_with fail
   go_ret;rw[HE.o];exact⟨rfl,HB2.o⟩
 by_cases k2:x.kind=2
 ·have hB:rfB x=⟨#[104,111,109,101,32]⟩++dec x.number:=by unfold rfB;rw[if_neg k1,if_pos k2]
  have HBB:=lh hB;have sd:=qb3 HX.o.2.2.2.2.1.1 HX.o.2.2.2.2.1.2;have s0:¬ 9223372036854775807 < 5+(dec x.number).size:=by omega
  have s1:¬ 9223372036854775807 < 5+(5+(dec x.number).size):=by omega
  rw[k2] at a0;have cF:=qn7 HX.o.2.2.2.2.1 W HT.o;clear hB k1 k2 sT
  go_wp2_with fail
  refine cF.mono ?_;rintro e w2 ⟨rfl,hb2⟩;have HB2:=lh (HB0.o.trans (hb2.mono HB0.o.size));have d7:cl w2 g 7 (.bool x.weak):=(HK0.o.below hb2 HK0.o.lt).cell 7;clear cF hb2 a0 a1 a2 a3 a4 a5 a6 a7
  cases hw:x.weak with
  | true =>
   rw[hw] at d7;have HE:Hid (T=⟨#[119,101,97,107,32]⟩++(⟨#[104,111,109,101,32]⟩++dec x.number)):=lh (by rw[HTE.o];unfold rfT;rw[hw,if_pos rfl,HBB.o]);clear hw
   go_wp2_with fail
   go_ret;rw[HE.o];exact⟨rfl,HB2.o⟩
  | false =>
   rw[hw] at d7;have HE:Hid (T=(⟨#[104,111,109,101,32]⟩++dec x.number)):=lh (by rw[HTE.o];unfold rfT;rw[hw,if_neg (by decide),HBB.o]);clear hw
   go_wp2_with fail
   go_ret;rw[HE.o];exact⟨rfl,HB2.o⟩
 by_cases k3:x.kind=3
 ·have hB:rfB x=⟨#[111,117,116,32]⟩++dec x.owner++⟨#[47]⟩++dec x.number++⟨#[32]⟩++idT x.idm x.ids:=by unfold rfB;rw[if_neg k1,if_neg k2,if_pos k3]
  have HBB:=lh hB;have sd:=qb3 HX.o.2.2.2.2.1.1 HX.o.2.2.2.2.1.2;have so:=qd2 x.owner HX.o.2.1.1 HX.o.2.1.2;have si:=qi1 HX.o.2.2.2.2.2.1 HX.o.2.2.2.2.2.2;have s0:¬ 9223372036854775807 < 4+(dec x.owner).size:=by omega
  have s1:¬ 9223372036854775807 < 4+(dec x.owner).size+1:=by omega
  have s2:¬ 9223372036854775807 < 4+(dec x.owner).size+1+(dec x.number).size:=by omega
  have s3:¬ 9223372036854775807 < 4+(dec x.owner).size+1+(dec x.number).size+1:=by omega
  have s4:¬ 9223372036854775807 < 4+(dec x.owner).size+1+(dec x.number).size+1+(idT x.idm x.ids).size:=by omega
  have s5:¬ 9223372036854775807 < 5+(4+(dec x.owner).size+1+(dec x.number).size+1+(idT x.idm x.ids).size):=by omega
  rw[k3] at a0;have cA:=fun dd os=>Calls.regrown_of (w:=W) (d:=dd) (os:=os) (qh3 x.owner HX.o.2.1.1 HX.o.2.1.2 _ (HT.o.below (below_regrown W dd os)));have cB:=fun dd os=>Calls.regrown_of (w:=W) (d:=dd) (os:=os) (qn7 HX.o.2.2.2.2.1 _ (HT.o.below (below_regrown W dd os)));have cC:=fun dd os=>Calls.regrown_of (w:=W) (d:=dd) (os:=os) (qw0 HX.o.2.2.2.2.2.1 HX.o.2.2.2.2.2.2 _ (HT.o.below (below_regrown W dd os)));have ka2:=cell_regrown a2;have ka3:=cell_regrown a3;have ka4:=cell_regrown a4;have ka5:=cell_regrown a5;clear hB k1 k2 k3 sT
  go_upto_region 8 with fail
  clear a0 a1 a2 a3 a4 a5 a6 a7;refine wp_region_quiet_below (by kernel_rfl) (by kernel_rfl) ?_
  repeat (quiet_step (first | exact cA _ _ | exact cB _ _ | exact cC _ _))
  refine wpQuiet_nil ?_;intro w2 hw';have hb2:=qc4 hw';have HB2:=lh (HB0.o.trans (hb2.mono HB0.o.size));have d7:cl w2 g 7 (.bool x.weak):=(HK0.o.below hb2 HK0.o.lt).cell 7;clear hw' hb2 cA cB cC ka2 ka3 ka4 ka5
  cases hw:x.weak with
  | true =>
   rw[hw] at d7;have HE:Hid (T=⟨#[119,101,97,107,32]⟩++(⟨#[111,117,116,32]⟩++dec x.owner++⟨#[47]⟩++dec x.number++⟨#[32]⟩++idT x.idm x.ids)):=lh (by rw[HTE.o];unfold rfT;rw[hw,if_pos rfl,HBB.o]);clear hw
   go_wp2_with fail
   go_ret;rw[HE.o];exact⟨rfl,HB2.o⟩
  | false =>
   rw[hw] at d7;have HE:Hid (T=(⟨#[111,117,116,32]⟩++dec x.owner++⟨#[47]⟩++dec x.number++⟨#[32]⟩++idT x.idm x.ids)):=lh (by rw[HTE.o];unfold rfT;rw[hw,if_neg (by decide),HBB.o]);clear hw
   go_wp2_with fail
   go_ret;rw[HE.o];exact⟨rfl,HB2.o⟩
 have hB:rfB x=⟨#[110,105,108]⟩:=by unfold rfB;rw[if_neg k1,if_neg k2,if_neg k3]
 have HBB:=lh hB;have q1:(x.kind == 1)=false:=by simpa using k1
 have q2:(x.kind == 2)=false:=by simpa using k2
 have q3:(x.kind == 3)=false:=by simpa using k3
 clear hB sT k1 k2 k3
 cases hw:x.weak with
 | true =>
  rw[hw] at a7;have HE:Hid (T=⟨#[119,101,97,107,32]⟩++⟨#[110,105,108]⟩):=lh (by rw[HTE.o];unfold rfT;rw[hw,if_pos rfl,HBB.o]);clear hw
  go_wp2_with fail
  go_ret;rw[HE.o];exact⟨rfl,HB0.o⟩
 | false =>
  rw[hw] at a7;have HE:Hid (T=⟨#[110,105,108]⟩):=lh (by rw[HTE.o];unfold rfT;rw[hw,if_neg (by decide),HBB.o]);clear hw
  go_wp2_with fail
  go_ret;rw[HE.o];exact⟨rfl,HB0.o⟩
end
section
open Go.RowKit Go.Sort
attribute [local go_sem] Oper.semAt_some
def strs (l:List ByteArray):List Value:=l.map Value.string
def jn (xs:List ByteArray):ByteArray:=⟨(Lib.join (xs.map (·.data.toList)) [44,32]).toArray⟩
def lsT (l:List Rf):ByteArray:=⟨#[40]⟩++jn (l.map rfT)++⟨#[41]⟩
theorem lens_le (xs:List ByteArray) (b:Nat) (h:∀ x∈xs,x.size≤b):Lib.lens (xs.map (·.data.toList))≤b*xs.length:=by
 induction xs with
 | nil=>simp[Lib.lens]
 | cons x r ih =>
  have h1:=ih fun y hy=>h y (List.mem_cons_of_mem _ hy);have h2:x.data.toList.length≤b:=h x (List.mem_cons_self ..);have h3:Lib.lens ((x::r).map (·.data.toList))=x.data.toList.length+Lib.lens (r.map (·.data.toList)):=by simp[Lib.lens]
  rw[h3,List.length_cons,Nat.mul_succ]
  omega
theorem jn_size (xs:List ByteArray) (b:Nat) (h:∀ x∈xs,x.size≤b):(jn xs).size≤(b+2)*xs.length:=by
 show(Lib.join (xs.map (·.data.toList)) [44,32]).length≤_
 have:=lens_le xs b h
 cases xs with
 | nil=>simp[Lib.join_nil]
 | cons x r =>
  rw[List.map_cons,Lib.join_length];rw[List.map_cons] at this;simp only[List.length_map,List.length_cons,List.length_nil] at *;have e:(b+2)*(r.length+1)=b*(r.length+1)+2*(r.length+1):=Nat.add_mul _ _ _
  omega
theorem lsT_size {l:List Rf} (hl:l.length≤1024) (h:∀ x∈l,rfP x):(jn (l.map rfT)).size≤101376:=by
 have:=jn_size (l.map rfT) 97 (fun x hx=>by obtain⟨y,hy,rfl⟩:=List.mem_map.1 hx;exact qi7 (h y hy));rw[List.length_map] at this
 omega
theorem i_strT:(Tryz.prog.info? 9).map (fun i=>(i.zero,i.size,i.bytes))=some (some (.string ⟨#[]⟩),1,16):=by kernel_rfl
theorem cell_one (w:World) (v:Value) (t:TypeId):∀ j u,[v][j]?=some u→(w.alloc (.cells #[v] t)).cell? ((⟨w.heap.size,0,none⟩:Addr).add j)=some u:=by
 intro j u hj
 cases j with
 | zero=>cases hj;rw[Addr.add_mid];exact(Bk.new w t #[v]).cell 0
 | succ k=>cases hj
theorem strs_get {l:List ByteArray} {j:Nat} {x:ByteArray} (h:l[j]?=some x):(strs l)[j]?=some (.string x):=by unfold strs;rw[List.getElem?_map,h];rfl
theorem strs_snoc {l:List Rf} {k:Nat} {x:Rf} (h:l[k]?=some x):strs ((l.take k).map rfT)++[.string (rfT x)]=strs ((l.take (k+1)).map rfT):=by
 rw[List.take_add_one,h]
 simp[strs]
theorem qq2 {A:Option Addr} {c:Nat} {l:List Rf} {w:World} (h:LsI (qa6 rfC) 26 8 w A c l) (hl:l.length≤1024) (hp:∀ x∈l,rfP x) (ht:Tb w):Calls Tryz.prog 78 #[.slice A l.length c] w (TxP w (lsT l)):=by
 obtain⟨i0,hi,hz0,hz1,hz2⟩:=info_parts i_strT;have HI:=lh (And.intro hi (And.intro hz0 (And.intro hz1 hz2)));have hc:=h.le.1;have H:=lh (And.intro h hp);have HT:=lh ht;have HW0:Hid (w.ownsRow w.heap.size 9 1 (sn) 0 (strs ((l.take 0).map rfT))):=lh (World.ownsRow_nil _ _ _ _);have HBE:Hid (bw w w):=lh (Below.refl _ _)
 obtain⟨T,hT⟩:∃ T,T=lsT l:=⟨_,rfl⟩
 rw[← hT];have HTE:=lh hT;clear h hp ht hi hz0 hz1 hz2 hT
 go_enter Tryz.func78,Tryz.ntmps78
 go_wp2_with fail
 go_loopw [3,8] (fun v ix wr=>∃ k:Nat,ix=iv (k:Int)∧k≤l.length∧wr.ownsRow w.heap.size 9 1 v k (strs ((l.take k).map rfT))∧bw w wr) (fun _ ix _=>l.length - (intOf ix).toNat)
 case atStart=>exact⟨0,rfl,Nat.zero_le _,HW0.o,HBE.o⟩
 case round =>
  obtain⟨k,rfl,hk,hown,hB⟩:=hrel;have HO:=lh hown;have HB:=lh hB;clear hown hB
  by_cases hlt:k < l.length
  ·obtain⟨x,hx⟩:∃ x,l[k]?=some x:=⟨_,List.getElem?_eq_getElem hlt⟩
   obtain⟨b,o,r,hA,_,hr,hcell⟩:=H.o.1.get hx;subst hA;have e0:cl wr b (o+k*8) (iv x.kind):=(qa9 HB.o).1 _ _ (qa4 (hcell 0 _ (by rw[hr];rfl))) |>.trans (hcell 0 _ (by rw[hr];rfl));have e1:cl wr b (o+k*8+1) (iv x.int):=(qa9 HB.o).1 _ _ (qa4 (hcell 1 _ (by rw[hr];rfl))) |>.trans (hcell 1 _ (by rw[hr];rfl));have e2:cl wr b (o+k*8+2) (iv x.owner):=(qa9 HB.o).1 _ _ (qa4 (hcell 2 _ (by rw[hr];rfl))) |>.trans (hcell 2 _ (by rw[hr];rfl));have e3:cl wr b (o+k*8+3) (uv x.number):=(qa9 HB.o).1 _ _ (qa4 (hcell 3 _ (by rw[hr];rfl))) |>.trans (hcell 3 _ (by rw[hr];rfl));have e4:cl wr b (o+k*8+4) (iv x.idm):=(qa9 HB.o).1 _ _ (qa4 (hcell 4 _ (by rw[hr];rfl))) |>.trans (hcell 4 _ (by rw[hr];rfl));have e5:cl wr b (o+k*8+5) (iv x.ids):=(qa9 HB.o).1 _ _ (qa4 (hcell 5 _ (by rw[hr];rfl))) |>.trans (hcell 5 _ (by rw[hr];rfl));have e6:cl wr b (o+k*8+6) (iv x.cls):=(qa9 HB.o).1 _ _ (qa4 (hcell 6 _ (by rw[hr];rfl))) |>.trans (hcell 6 _ (by rw[hr];rfl));have e7:cl wr b (o+k*8+7) (.bool x.weak):=(qa9 HB.o).1 _ _ (qa4 (hcell 7 _ (by rw[hr];rfl))) |>.trans (hcell 7 _ (by rw[hr];rfl));have hkc:k < c:=by omega
   have HX:=lh hx;have HXP:Hid (rfP x):=lh (H.o.2 x (List.mem_of_getElem? hx))
   obtain⟨W,hW⟩:∃ W,W=wr.alloc (.cells #[iv x.kind,iv x.int,iv x.owner,uv x.number,iv x.idm,iv x.ids,iv x.cls,.bool x.weak] 26):=⟨_,rfl⟩
   obtain⟨g,hg⟩:∃ g,g=wr.heap.size:=⟨_,rfl⟩
   have hb0:bw wr W:=by rw[hW];exact qa2 _ _
   have hk0:Bk W g 26 #[iv x.kind,iv x.int,iv x.owner,uv x.number,iv x.idm,iv x.ids,iv x.cls,.bool x.weak]:=by rw[hW,hg];exact Bk.new _ _ _
   have a0:cl W g 0 (iv x.kind):=hk0.cell 0;have a1:cl W g 1 (iv x.int):=hk0.cell 1;have a2:cl W g 2 (iv x.owner):=hk0.cell 2;have a3:cl W g 3 (uv x.number):=hk0.cell 3;have a4:cl W g 4 (iv x.idm):=hk0.cell 4;have a5:cl W g 5 (iv x.ids):=hk0.cell 5;have a6:cl W g 6 (iv x.cls):=hk0.cell 6;have a7:cl W g 7 (.bool x.weak):=hk0.cell 7;have HBW:=lh (HB.o.trans (hb0.mono HB.o.size));have HOW:=lh (qj8 HO.o fun q hq=>hb0.block q (HO.o.lt q hq).2);have cR:=qn6 HXP.o W (HT.o.below HBW.o);clear hx hcell hr hb0 hk0
   go_upto_region 5 with fail
   rw[← hW,← hg];clear hW hg e0 e1 e2 e3 e4 e5 e6 e7
   go_wp2_with (first | (go_at_call 105;refine cR.mono ?_;rintro e w2 ⟨rfl,hb2⟩;have HB2:=lh (HBW.o.trans (hb2.mono HBW.o.size));have HO2:=lh (qj8 HOW.o fun q hq=>hb2.block q (HOW.o.lt q hq).2);have hz2:=HB2.o.size;clear hb2 cR a0 a1 a2 a3 a4 a5 a6 a7) | (at_builtin;refine wpList_append_own _ rfl (.tmp 12) (.tmp 15) 85 rfl w.heap.size 9 i0 (.string ⟨#[]⟩) 1 16 Tryz.underlying85 HI.o.1 HI.o.2.1 HI.o.2.2.1 HI.o.2.2.2 rfl (by decide) _ _ _ rfl (HO2.o.alloc _) ⟨w2.heap.size,0,none⟩ 1 1 [.string (rfT x)] rfl rfl (cell_one _ _ _) (by simp[Value.oneCell']) (by unfold maxLen;omega) (by omega) (by simp;omega) ?_;intro v' w3 hown3 hg3 _;have HOWN3:=lh hown3;have HG3:=lh hg3;clear hown3 hg3))
   have HBZ:Hid (bw w w3):=lh ((HB2.o.alloc HB2.o.size _).grown HG3.o (by simp;omega) fun q hq=>(HO2.o.lt q hq).1);have HOZ:Hid (w3.ownsRow w.heap.size 9 1 v' (k+1) (strs ((l.take (k+1)).map rfT))):=lh (by rw[← strs_snoc HX.o];exact HOWN3.o);exact⟨⟨k+1,by go_num,hlt,HOZ.o,HBZ.o⟩,by simp[intOf];omega⟩
  ·obtain rfl:k=l.length:=by omega
   have ho:=HO.o;rw[List.take_length] at ho;have sT:=lsT_size hl H.o.2;have HJ:Hid (T=⟨#[40]⟩++jn (l.map rfT)++⟨#[41]⟩):=lh HTE.o
   obtain⟨J,hJ⟩:∃ J,J=jn (l.map rfT):=⟨_,rfl⟩
   rw[← hJ] at HJ sT;have s1:¬ 9223372036854775807 < 1+J.size:=by omega
   have s2:¬ 9223372036854775807 < 1+J.size+1:=by omega
   have h7:J.size=(Lib.join ((l.map rfT).map (·.data.toList)) [44,32]).length:=by rw[hJ];rfl
   have cJ:∃ A' c',u3=.slice A' l.length c'∧Calls Tryz.prog 132 #[.slice A' l.length c',.string ⟨#[44,32]⟩] wr (TxP wr J):=by
    obtain⟨A',c',hv,_⟩:=qc1 ho;refine⟨A',c',hv,?_⟩;rcases Nat.eq_zero_or_pos l.length with h0 | h0
    ·have hn:l=[]:=List.eq_nil_of_length_eq_zero h0;rw[hn] at hJ;rw[h0,hJ]
     exact(Tryz.strings_Join_none A' c' ⟨#[44,32]⟩ wr).mono fun e w' ⟨h1,h2⟩=>⟨h1,by rw[h2];exact Below.refl _ _⟩
    ·obtain⟨g',cap,hv2,h1,h2,h3,h4⟩:=ownSls ho h0;rw[hv] at hv2
     injection hv2 with e1 e2 e3
     subst e1 e3;obtain⟨b',o',e4,h5,h6⟩:=h4.get h0
     injection e4 with e4
     injection e4 with e5 e6
     subst e5 e6;have:=Tryz.strings_Join g' 0 c' (l.map rfT) ⟨#[44,32]⟩ wr (fun j x hx=>h6 j _ (strs_get hx)) h5 (by rw[List.length_map];omega) (by rw[List.length_map];exact h1) (show(Lib.join ((l.map rfT).map (·.data.toList)) [44,32]).length≤140737488355328 from by rw[← h7];omega);rw[List.length_map] at this;rw[hJ];exact this
   obtain⟨A',c',rfl,cJ⟩:=cJ;clear ho hJ h7
   go_wp2_with (go_at_call 132;refine cJ.mono ?_;rintro e w5 ⟨rfl,hb5⟩;have HB5:=lh (HB.o.trans (hb5.mono HB.o.size));clear hb5 cJ)
   go_ret;rw[HJ.o];exact⟨rfl,HB5.o⟩
end
end Go.Proofs.YtmbnlccafcfbeaaGreatDoor
