/- Parts of the proof: RsE, RcO3, RcAw. -/
import Derived.Lib.QuietBelow
import Derived.Test.YtmbnlccafcfbeaaGreatDoorPaA
import Derived.Test.YtmbnlccafcfbeaaGreatDoorPa27
import Derived.Test.YtmbnlccafcfbeaaGreatDoorPa28
import Derived.Test.YtmbnlccafcfbeaaGreatDoorPa30
import Derived.Test.YtmbnlccafcfbeaaGreatDoorPa32
set_option linter.unusedVariables false
set_option linter.unusedSimpArgs false
set_option linter.unusedSectionVars false
set_option maxRecDepth 100000
namespace Go.Proofs.YtmbnlccafcfbeaaGreatDoor
section
open Go.RowKit Go.Sort
attribute [local go_sem] Oper.semAt_some
set_option maxHeartbeats 2000000 in
theorem eql_rfs (w:World) (x y:Rf):(binOp .eql 26 (.agg #[.int .i64 x.kind,.int .i64 x.int,.int .i64 x.owner,.int .u64 x.number,.int .i64 x.idm,.int .i64 x.ids,.int .i64 x.cls,.bool x.weak]) (.agg #[.int .i64 y.kind,.int .i64 y.int,.int .i64 y.owner,.int .u64 y.number,.int .i64 y.idm,.int .i64 y.ids,.int .i64 y.cls,.bool y.weak])).run Tryz.prog w=.ok (.bool (decide (x=y))) w:=by
 cases x;cases y
 go_simp
 repeat' split
 all_goals simp_all
theorem ms_eq (x y:Ms):decide (x=y)=(decide (x.kind=y.kind) && decide (x.number=y.number) && decide (x.asker=y.asker) && decide (x.name=y.name) && decide (x.ref=y.ref) && decide (x.letter=y.letter) && decide (x.parcel=y.parcel) && decide (x.tm=y.tm∧x.ts=y.ts) && decide (x.answer=y.answer) && decide (x.claim=y.claim)):=by
 cases x;cases y
 simp only[Ms.mk.injEq]
 rw[Bool.eq_iff_iff]
 simp only[decide_eq_true_eq,Bool.and_eq_true]
 exact⟨fun⟨a,b,c,d,e,f,g,h,i,j,k⟩=>⟨⟨⟨⟨⟨⟨⟨⟨⟨a,b⟩,c⟩,d⟩,e⟩,f⟩,g⟩,h,i⟩,j⟩,k⟩,fun⟨⟨⟨⟨⟨⟨⟨⟨⟨a,b⟩,c⟩,d⟩,e⟩,f⟩,g⟩,h,i⟩,j⟩,k⟩=>⟨a,b,c,d,e,f,g,h,i,j,k⟩⟩
theorem eql_tr (w:World) (a b c d:Int):(binOp .eql 34 (.agg #[.int .i64 a,.int .i64 b]) (.agg #[.int .i64 c,.int .i64 d])).run Tryz.prog w=.ok (.bool (decide (a=c∧b=d))) w:=by
 go_simp
 repeat' split
 all_goals simp_all
theorem bk_sub {w:World} {g:Nat} {t:TypeId} {M:Array Value} (h:Bk w g t M) (o n:Nat) {l:List Value} (hl:l=(M.toList.drop o).take n):w.rangeAt g o l:=fun j v hv=>by
 subst hl
 rw[h.cell (o+j)]
 have hj:j < n:=by
  have:=(List.getElem?_eq_some_iff.1 hv).1
  rw[List.length_take] at this
  omega
 rw[List.getElem?_take_of_lt hj,List.getElem?_drop] at hv
 simpa using hv
set_option maxHeartbeats 8000000 in
theorem Same_any {w:World} {x y:Ms} {r1 r2:List Value} (h1:MsI w x r1) (h2:MsI w y r2):Calls Tryz.prog 14 #[.agg r1.toArray,.agg r2.toArray] w (YesP w (decide (x=y))):=by
 obtain⟨A1,c1,A2,c2,A3,c3,A4,c4,A5,c5,A6,c6,A7,c7,A8,c8,hr1,hx1,hx2,hx3,hx4,hx5,hx6,hx7,hx8⟩:=h1
 obtain⟨B1,d1,B2,d2,B3,d3,B4,d4,B5,d5,B6,d6,B7,d7,B8,d8,hr2,hy1,hy2,hy3,hy4,hy5,hy6,hy7,hy8⟩:=h2
 obtain⟨M,hM⟩:∃ M,M=r1.toArray:=⟨_,rfl⟩
 obtain⟨L,hL⟩:∃ L,L=r2.toArray:=⟨_,rfl⟩
 rw[← hM,← hL]
 rw[hr1] at hM
 rw[hr2] at hL
 clear hr1 hr2
 have HM:=lh hM
 have HL:=lh hL
 obtain⟨R,hR⟩:∃ R,R=decide (x=y):=⟨_,rfl⟩
 rw[← hR]
 have HR:=lh hR
 obtain⟨W,hW⟩:∃ W,W=(w.alloc (.cells M 42)).alloc (.cells L 42):=⟨_,rfl⟩
 obtain⟨g,hg⟩:∃ g,g=w.heap.size:=⟨_,rfl⟩
 have hb0:Below w.heap.size w W:=by rw[hW];exact((Below.refl _ _).alloc (Nat.le_refl _) _).alloc (by simp) _
 have hk0:Bk W g 42 M:=by rw[hW,hg];exact(Bk.new _ _ _).alloc _
 have hj0:Bk W (g+1) 42 L:=by rw[hW,hg];have:=Bk.new (w.alloc (.cells M 42)) 42 L;simpa using this
 have MX10:Hid (LsI (flat rfC) 26 8 W A1 c1 x.letter.args):=lh ((show LsI (flat rfC) 26 8 w A1 c1 x.letter.args from hx1).below (flat_ru _) (flat_rk _) hb0)
 have MY10:Hid (LsI (flat rfC) 26 8 W B1 d1 y.letter.args):=lh ((show LsI (flat rfC) 26 8 w B1 d1 y.letter.args from hy1).below (flat_ru _) (flat_rk _) hb0)
 have MX20:Hid (LsI (flat rfC) 26 8 W A2 c2 x.parcel.fields):=lh ((show LsI (flat rfC) 26 8 w A2 c2 x.parcel.fields from hx2).below (flat_ru _) (flat_rk _) hb0)
 have MY20:Hid (LsI (flat rfC) 26 8 W B2 d2 y.parcel.fields):=lh ((show LsI (flat rfC) 26 8 w B2 d2 y.parcel.fields from hy2).below (flat_ru _) (flat_rk _) hb0)
 have MX30:Hid (LsI (LtR) 29 4 W A3 c3 x.parcel.mail):=lh ((show LsI (LtR) 29 4 w A3 c3 x.parcel.mail from hx3).below (ltR_ru) (ltR_rk) hb0)
 have MY30:Hid (LsI (LtR) 29 4 W B3 d3 y.parcel.mail):=lh ((show LsI (LtR) 29 4 w B3 d3 y.parcel.mail from hy3).below (ltR_ru) (ltR_rk) hb0)
 have MX40:Hid (LsI (flat waC) 65 12 W A4 c4 x.parcel.watches):=lh ((show LsI (flat waC) 65 12 w A4 c4 x.parcel.watches from hx4).below (flat_ru _) (flat_rk _) hb0)
 have MY40:Hid (LsI (flat waC) 65 12 W B4 d4 y.parcel.watches):=lh ((show LsI (flat waC) 65 12 w B4 d4 y.parcel.watches from hy4).below (flat_ru _) (flat_rk _) hb0)
 have MX50:Hid (LsI (flat inC) 99 3 W A5 c5 x.answer.inset):=lh ((show LsI (flat inC) 99 3 w A5 c5 x.answer.inset from hx5).below (flat_ru _) (flat_rk _) hb0)
 have MY50:Hid (LsI (flat inC) 99 3 W B5 d5 y.answer.inset):=lh ((show LsI (flat inC) 99 3 w B5 d5 y.answer.inset from hy5).below (flat_ru _) (flat_rk _) hb0)
 have MX60:Hid (LsI (flat ndC) 136 3 W A6 c6 x.claim.stubs):=lh ((show LsI (flat ndC) 136 3 w A6 c6 x.claim.stubs from hx6).below (flat_ru _) (flat_rk _) hb0)
 have MY60:Hid (LsI (flat ndC) 136 3 W B6 d6 y.claim.stubs):=lh ((show LsI (flat ndC) 136 3 w B6 d6 y.claim.stubs from hy6).below (flat_ru _) (flat_rk _) hb0)
 have MX70:Hid (LsI (flat ndC) 136 3 W A7 c7 x.claim.scions):=lh ((show LsI (flat ndC) 136 3 w A7 c7 x.claim.scions from hx7).below (flat_ru _) (flat_rk _) hb0)
 have MY70:Hid (LsI (flat ndC) 136 3 W B7 d7 y.claim.scions):=lh ((show LsI (flat ndC) 136 3 w B7 d7 y.claim.scions from hy7).below (flat_ru _) (flat_rk _) hb0)
 have MX80:Hid (LsI (flat ndC) 136 3 W A8 c8 x.claim.checks):=lh ((show LsI (flat ndC) 136 3 w A8 c8 x.claim.checks from hx8).below (flat_ru _) (flat_rk _) hb0)
 have MY80:Hid (LsI (flat ndC) 136 3 W B8 d8 y.claim.checks):=lh ((show LsI (flat ndC) 136 3 w B8 d8 y.claim.checks from hy8).below (flat_ru _) (flat_rk _) hb0)
 have xa0:W.cell? ⟨g,0,none⟩=some (.int .i64 x.kind):=(hk0.cell 0).trans (by rw[HM.out];rfl)
 have xa1:W.cell? ⟨g,1,none⟩=some (.int .u64 x.number):=(hk0.cell 1).trans (by rw[HM.out];rfl)
 have xa2:W.cell? ⟨g,2,none⟩=some (.int .i64 x.asker):=(hk0.cell 2).trans (by rw[HM.out];rfl)
 have xa3:W.cell? ⟨g,3,none⟩=some (.string x.name):=(hk0.cell 3).trans (by rw[HM.out];rfl)
 have xa4:W.cell? ⟨g,4,none⟩=some (.int .i64 x.ref.kind):=(hk0.cell 4).trans (by rw[HM.out];rfl)
 have xa5:W.cell? ⟨g,5,none⟩=some (.int .i64 x.ref.int):=(hk0.cell 5).trans (by rw[HM.out];rfl)
 have xa6:W.cell? ⟨g,6,none⟩=some (.int .i64 x.ref.owner):=(hk0.cell 6).trans (by rw[HM.out];rfl)
 have xa7:W.cell? ⟨g,7,none⟩=some (.int .u64 x.ref.number):=(hk0.cell 7).trans (by rw[HM.out];rfl)
 have xa8:W.cell? ⟨g,8,none⟩=some (.int .i64 x.ref.idm):=(hk0.cell 8).trans (by rw[HM.out];rfl)
 have xa9:W.cell? ⟨g,9,none⟩=some (.int .i64 x.ref.ids):=(hk0.cell 9).trans (by rw[HM.out];rfl)
 have xa10:W.cell? ⟨g,10,none⟩=some (.int .i64 x.ref.cls):=(hk0.cell 10).trans (by rw[HM.out];rfl)
 have xa11:W.cell? ⟨g,11,none⟩=some (.bool x.ref.weak):=(hk0.cell 11).trans (by rw[HM.out];rfl)
 have ya0:W.cell? ⟨g+1,0,none⟩=some (.int .i64 y.kind):=(hj0.cell 0).trans (by rw[HL.out];rfl)
 have ya1:W.cell? ⟨g+1,1,none⟩=some (.int .u64 y.number):=(hj0.cell 1).trans (by rw[HL.out];rfl)
 have ya2:W.cell? ⟨g+1,2,none⟩=some (.int .i64 y.asker):=(hj0.cell 2).trans (by rw[HL.out];rfl)
 have ya3:W.cell? ⟨g+1,3,none⟩=some (.string y.name):=(hj0.cell 3).trans (by rw[HL.out];rfl)
 have ya4:W.cell? ⟨g+1,4,none⟩=some (.int .i64 y.ref.kind):=(hj0.cell 4).trans (by rw[HL.out];rfl)
 have ya5:W.cell? ⟨g+1,5,none⟩=some (.int .i64 y.ref.int):=(hj0.cell 5).trans (by rw[HL.out];rfl)
 have ya6:W.cell? ⟨g+1,6,none⟩=some (.int .i64 y.ref.owner):=(hj0.cell 6).trans (by rw[HL.out];rfl)
 have ya7:W.cell? ⟨g+1,7,none⟩=some (.int .u64 y.ref.number):=(hj0.cell 7).trans (by rw[HL.out];rfl)
 have ya8:W.cell? ⟨g+1,8,none⟩=some (.int .i64 y.ref.idm):=(hj0.cell 8).trans (by rw[HL.out];rfl)
 have ya9:W.cell? ⟨g+1,9,none⟩=some (.int .i64 y.ref.ids):=(hj0.cell 9).trans (by rw[HL.out];rfl)
 have ya10:W.cell? ⟨g+1,10,none⟩=some (.int .i64 y.ref.cls):=(hj0.cell 10).trans (by rw[HL.out];rfl)
 have ya11:W.cell? ⟨g+1,11,none⟩=some (.bool y.ref.weak):=(hj0.cell 11).trans (by rw[HL.out];rfl)
 have HK0:=lh hk0
 have HJ0:=lh hj0
 have HB0:=lh hb0
 clear hb0 hk0 hj0 hR hM hL hx1 hy1 hx2 hy2 hx3 hy3 hx4 hy4 hx5 hy5 hx6 hy6 hx7 hy7 hx8 hy8
 go_enter Tryz.func14,Tryz.ntmps14
 go_upto_region 1 with fail
 rw[← hW,← hg]
 clear hW hg
 refine wp_region_list ?_
 cases h0:decide (x.kind=y.kind) with
 | true =>
  have q0:(x.kind == y.kind)=true:=h0
  have H0:=lh h0
  clear h0
  cases h1:decide (x.number=y.number) with
  | true =>
   have q1:(x.number == y.number)=true:=h1
   have H1:=lh h1
   clear h1
   cases h2:decide (x.asker=y.asker) with
   | true =>
    have q2:(x.asker == y.asker)=true:=h2
    have H2:=lh h2
    clear h2
    cases h3:decide (x.name=y.name) with
    | true =>
     have q3:(x.name.toList == y.name.toList)=true:=by rw[bytes_eq];exact h3
     have H3:=lh h3
     clear h3
     cases h4:decide (x.ref=y.ref) with
     | true =>
      have q4:∀ W,(binOp .eql 26 (.agg #[.int .i64 x.ref.kind,.int .i64 x.ref.int,.int .i64 x.ref.owner,.int .u64 x.ref.number,.int .i64 x.ref.idm,.int .i64 x.ref.ids,.int .i64 x.ref.cls,.bool x.ref.weak]) (.agg #[.int .i64 y.ref.kind,.int .i64 y.ref.int,.int .i64 y.ref.owner,.int .u64 y.ref.number,.int .i64 y.ref.idm,.int .i64 y.ref.ids,.int .i64 y.ref.cls,.bool y.ref.weak])).run Tryz.prog W=.ok (.bool true) W:=fun W=>by rw[eql_rfs,h4]
      have H4:=lh h4
      clear h4
      have RX5:=bk_sub (l:=[.int .i64 x.letter.idm,.int .i64 x.letter.ids,.string x.letter.meth,.slice A1 x.letter.args.length c1]) HK0.out 12 4 (by rw[HM.out];rfl)
      have RY5:=bk_sub (l:=[.int .i64 y.letter.idm,.int .i64 y.letter.ids,.string y.letter.meth,.slice B1 y.letter.args.length d1]) HJ0.out 12 4 (by rw[HL.out];rfl)
      have GX5:=lh RX5
      have GY5:=lh RY5
      clear RX5 RY5
      cases h5:decide (x.letter=y.letter) with
      | true =>
       have kc5:=SameLetter_any (x:=x.letter) (y:=y.letter) MX10.out MY10.out
       rw[h5] at kc5
       have H5:=lh h5
       clear h5
       go_wp2_with (first | (refine wpList_load_g rfl _ _ rfl g 12 rfl [.int .i64 x.letter.idm,.int .i64 x.letter.ids,.string x.letter.meth,.slice A1 x.letter.args.length c1] _ GX5.out rfl rfl rfl ?_) | (refine wpList_load_g rfl _ _ rfl (g+1) 12 rfl [.int .i64 y.letter.idm,.int .i64 y.letter.ids,.string y.letter.meth,.slice B1 y.letter.args.length d1] _ GY5.out rfl rfl rfl ?_) | fail)
       refine kc5.mono ?_
       rintro e w1 ⟨rfl,hb1⟩
       have HB1:=lh (HB0.out.trans (hb1.mono HB0.out.size))
       have hk1:=HK0.out.below hb1 HK0.out.lt
       have hj1:=HJ0.out.below hb1 HJ0.out.lt
       have MX21:Hid (LsI (flat rfC) 26 8 w1 A2 c2 x.parcel.fields):=lh (MX20.out.below (flat_ru _) (flat_rk _) hb1)
       have MY21:Hid (LsI (flat rfC) 26 8 w1 B2 d2 y.parcel.fields):=lh (MY20.out.below (flat_ru _) (flat_rk _) hb1)
       have MX31:Hid (LsI (LtR) 29 4 w1 A3 c3 x.parcel.mail):=lh (MX30.out.below (ltR_ru) (ltR_rk) hb1)
       have MY31:Hid (LsI (LtR) 29 4 w1 B3 d3 y.parcel.mail):=lh (MY30.out.below (ltR_ru) (ltR_rk) hb1)
       have MX41:Hid (LsI (flat waC) 65 12 w1 A4 c4 x.parcel.watches):=lh (MX40.out.below (flat_ru _) (flat_rk _) hb1)
       have MY41:Hid (LsI (flat waC) 65 12 w1 B4 d4 y.parcel.watches):=lh (MY40.out.below (flat_ru _) (flat_rk _) hb1)
       have MX51:Hid (LsI (flat inC) 99 3 w1 A5 c5 x.answer.inset):=lh (MX50.out.below (flat_ru _) (flat_rk _) hb1)
       have MY51:Hid (LsI (flat inC) 99 3 w1 B5 d5 y.answer.inset):=lh (MY50.out.below (flat_ru _) (flat_rk _) hb1)
       have MX61:Hid (LsI (flat ndC) 136 3 w1 A6 c6 x.claim.stubs):=lh (MX60.out.below (flat_ru _) (flat_rk _) hb1)
       have MY61:Hid (LsI (flat ndC) 136 3 w1 B6 d6 y.claim.stubs):=lh (MY60.out.below (flat_ru _) (flat_rk _) hb1)
       have MX71:Hid (LsI (flat ndC) 136 3 w1 A7 c7 x.claim.scions):=lh (MX70.out.below (flat_ru _) (flat_rk _) hb1)
       have MY71:Hid (LsI (flat ndC) 136 3 w1 B7 d7 y.claim.scions):=lh (MY70.out.below (flat_ru _) (flat_rk _) hb1)
       have MX81:Hid (LsI (flat ndC) 136 3 w1 A8 c8 x.claim.checks):=lh (MX80.out.below (flat_ru _) (flat_rk _) hb1)
       have MY81:Hid (LsI (flat ndC) 136 3 w1 B8 d8 y.claim.checks):=lh (MY80.out.below (flat_ru _) (flat_rk _) hb1)
       have HK1:=lh hk1
       have HJ1:=lh hj1
       clear hb1 hk1 hj1 kc5 xa0 ya0 xa1 ya1 xa2 ya2 xa3 ya3 xa4 ya4 xa5 ya5 xa6 ya6 xa7 ya7 xa8 ya8 xa9 ya9 xa10 ya10 xa11 ya11
       have RX6:=bk_sub (l:=[.int .u64 x.parcel.number,.int .i64 x.parcel.idm,.int .i64 x.parcel.ids,.int .i64 x.parcel.kind,.int .i64 x.parcel.cls,.slice A2 x.parcel.fields.length c2,.slice A3 x.parcel.mail.length c3,.slice A4 x.parcel.watches.length c4]) HK1.out 16 8 (by rw[HM.out];rfl)
       have RY6:=bk_sub (l:=[.int .u64 y.parcel.number,.int .i64 y.parcel.idm,.int .i64 y.parcel.ids,.int .i64 y.parcel.kind,.int .i64 y.parcel.cls,.slice B2 y.parcel.fields.length d2,.slice B3 y.parcel.mail.length d3,.slice B4 y.parcel.watches.length d4]) HJ1.out 16 8 (by rw[HL.out];rfl)
       have GX6:=lh RX6
       have GY6:=lh RY6
       clear RX6 RY6
       cases h6:decide (x.parcel=y.parcel) with
       | true =>
        have kc6:=SameParcel_any (x:=x.parcel) (y:=y.parcel) MX21.out MY21.out MX31.out MY31.out MX41.out MY41.out
        rw[h6] at kc6
        have H6:=lh h6
        clear h6
        go_wp2_with (first | (refine wpList_load_g rfl _ _ rfl g 16 rfl [.int .u64 x.parcel.number,.int .i64 x.parcel.idm,.int .i64 x.parcel.ids,.int .i64 x.parcel.kind,.int .i64 x.parcel.cls,.slice A2 x.parcel.fields.length c2,.slice A3 x.parcel.mail.length c3,.slice A4 x.parcel.watches.length c4] _ GX6.out rfl rfl rfl ?_) | (refine wpList_load_g rfl _ _ rfl (g+1) 16 rfl [.int .u64 y.parcel.number,.int .i64 y.parcel.idm,.int .i64 y.parcel.ids,.int .i64 y.parcel.kind,.int .i64 y.parcel.cls,.slice B2 y.parcel.fields.length d2,.slice B3 y.parcel.mail.length d3,.slice B4 y.parcel.watches.length d4] _ GY6.out rfl rfl rfl ?_) | fail)
        refine kc6.mono ?_
        rintro e w2 ⟨rfl,hb2⟩
        have HB2:=lh (HB1.out.trans (hb2.mono HB1.out.size))
        have hk2:=HK1.out.below hb2 HK1.out.lt
        have hj2:=HJ1.out.below hb2 HJ1.out.lt
        have MX52:Hid (LsI (flat inC) 99 3 w2 A5 c5 x.answer.inset):=lh (MX51.out.below (flat_ru _) (flat_rk _) hb2)
        have MY52:Hid (LsI (flat inC) 99 3 w2 B5 d5 y.answer.inset):=lh (MY51.out.below (flat_ru _) (flat_rk _) hb2)
        have MX62:Hid (LsI (flat ndC) 136 3 w2 A6 c6 x.claim.stubs):=lh (MX61.out.below (flat_ru _) (flat_rk _) hb2)
        have MY62:Hid (LsI (flat ndC) 136 3 w2 B6 d6 y.claim.stubs):=lh (MY61.out.below (flat_ru _) (flat_rk _) hb2)
        have MX72:Hid (LsI (flat ndC) 136 3 w2 A7 c7 x.claim.scions):=lh (MX71.out.below (flat_ru _) (flat_rk _) hb2)
        have MY72:Hid (LsI (flat ndC) 136 3 w2 B7 d7 y.claim.scions):=lh (MY71.out.below (flat_ru _) (flat_rk _) hb2)
        have MX82:Hid (LsI (flat ndC) 136 3 w2 A8 c8 x.claim.checks):=lh (MX81.out.below (flat_ru _) (flat_rk _) hb2)
        have MY82:Hid (LsI (flat ndC) 136 3 w2 B8 d8 y.claim.checks):=lh (MY81.out.below (flat_ru _) (flat_rk _) hb2)
        have xc24:w2.cell? ⟨g,24,none⟩=some (.int .i64 x.tm):=(hk2.cell 24).trans (by rw[HM.out];rfl)
        have xc25:w2.cell? ⟨g,25,none⟩=some (.int .i64 x.ts):=(hk2.cell 25).trans (by rw[HM.out];rfl)
        have yc24:w2.cell? ⟨g+1,24,none⟩=some (.int .i64 y.tm):=(hj2.cell 24).trans (by rw[HL.out];rfl)
        have yc25:w2.cell? ⟨g+1,25,none⟩=some (.int .i64 y.ts):=(hj2.cell 25).trans (by rw[HL.out];rfl)
        have HK2:=lh hk2
        have HJ2:=lh hj2
        clear hb2 hk2 hj2 kc6
        cases h7:decide (x.tm=y.tm∧x.ts=y.ts) with
        | true =>
         have q7:∀ W,(binOp .eql 34 (.agg #[.int .i64 x.tm,.int .i64 x.ts]) (.agg #[.int .i64 y.tm,.int .i64 y.ts])).run Tryz.prog W=.ok (.bool true) W:=fun W=>by rw[eql_tr,h7]
         have H7:=lh h7
         clear h7
         have RX8:=bk_sub (l:=[.int .i64 x.answer.machine,.int .i64 x.answer.owner,.int .u64 x.answer.number,.int .i64 x.answer.epoch,.bool x.answer.known,.bool x.answer.rooted,.int .i64 x.answer.last,.slice A5 x.answer.inset.length c5]) HK2.out 26 8 (by rw[HM.out];rfl)
         have RY8:=bk_sub (l:=[.int .i64 y.answer.machine,.int .i64 y.answer.owner,.int .u64 y.answer.number,.int .i64 y.answer.epoch,.bool y.answer.known,.bool y.answer.rooted,.int .i64 y.answer.last,.slice B5 y.answer.inset.length d5]) HJ2.out 26 8 (by rw[HL.out];rfl)
         have GX8:=lh RX8
         have GY8:=lh RY8
         clear RX8 RY8
         cases h8:decide (x.answer=y.answer) with
         | true =>
          have kc8:=SameAnswer_any (x:=x.answer) (y:=y.answer) MX52.out MY52.out
          rw[h8] at kc8
          have H8:=lh h8
          clear h8
          go_wp2_with (first | (refine wpList_load_g rfl _ _ rfl g 26 rfl [.int .i64 x.answer.machine,.int .i64 x.answer.owner,.int .u64 x.answer.number,.int .i64 x.answer.epoch,.bool x.answer.known,.bool x.answer.rooted,.int .i64 x.answer.last,.slice A5 x.answer.inset.length c5] _ GX8.out rfl rfl rfl ?_) | (refine wpList_load_g rfl _ _ rfl (g+1) 26 rfl [.int .i64 y.answer.machine,.int .i64 y.answer.owner,.int .u64 y.answer.number,.int .i64 y.answer.epoch,.bool y.answer.known,.bool y.answer.rooted,.int .i64 y.answer.last,.slice B5 y.answer.inset.length d5] _ GY8.out rfl rfl rfl ?_) | fail)
          refine kc8.mono ?_
          rintro e w3 ⟨rfl,hb3⟩
          have HB3:=lh (HB2.out.trans (hb3.mono HB2.out.size))
          have hk3:=HK2.out.below hb3 HK2.out.lt
          have hj3:=HJ2.out.below hb3 HJ2.out.lt
          have MX63:Hid (LsI (flat ndC) 136 3 w3 A6 c6 x.claim.stubs):=lh (MX62.out.below (flat_ru _) (flat_rk _) hb3)
          have MY63:Hid (LsI (flat ndC) 136 3 w3 B6 d6 y.claim.stubs):=lh (MY62.out.below (flat_ru _) (flat_rk _) hb3)
          have MX73:Hid (LsI (flat ndC) 136 3 w3 A7 c7 x.claim.scions):=lh (MX72.out.below (flat_ru _) (flat_rk _) hb3)
          have MY73:Hid (LsI (flat ndC) 136 3 w3 B7 d7 y.claim.scions):=lh (MY72.out.below (flat_ru _) (flat_rk _) hb3)
          have MX83:Hid (LsI (flat ndC) 136 3 w3 A8 c8 x.claim.checks):=lh (MX82.out.below (flat_ru _) (flat_rk _) hb3)
          have MY83:Hid (LsI (flat ndC) 136 3 w3 B8 d8 y.claim.checks):=lh (MY82.out.below (flat_ru _) (flat_rk _) hb3)
          have HK3:=lh hk3
          have HJ3:=lh hj3
          clear hb3 hk3 hj3 kc8 xc24 yc24 xc25 yc25
          have RX9:=bk_sub (l:=[.int .i64 x.claim.machine,.int .i64 x.claim.epoch,.slice A6 x.claim.stubs.length c6,.slice A7 x.claim.scions.length c7,.slice A8 x.claim.checks.length c8]) HK3.out 34 5 (by rw[HM.out];rfl)
          have RY9:=bk_sub (l:=[.int .i64 y.claim.machine,.int .i64 y.claim.epoch,.slice B6 y.claim.stubs.length d6,.slice B7 y.claim.scions.length d7,.slice B8 y.claim.checks.length d8]) HJ3.out 34 5 (by rw[HL.out];rfl)
          have GX9:=lh RX9
          have GY9:=lh RY9
          clear RX9 RY9
          cases h9:decide (x.claim=y.claim) with
          | true =>
           have kc9:=SameClaim_any (x:=x.claim) (y:=y.claim) MX63.out MY63.out MX73.out MY73.out MX83.out MY83.out
           rw[h9] at kc9
           have H9:=lh h9
           clear h9
           go_wp2_with (first | (refine wpList_load_g rfl _ _ rfl g 34 rfl [.int .i64 x.claim.machine,.int .i64 x.claim.epoch,.slice A6 x.claim.stubs.length c6,.slice A7 x.claim.scions.length c7,.slice A8 x.claim.checks.length c8] _ GX9.out rfl rfl rfl ?_) | (refine wpList_load_g rfl _ _ rfl (g+1) 34 rfl [.int .i64 y.claim.machine,.int .i64 y.claim.epoch,.slice B6 y.claim.stubs.length d6,.slice B7 y.claim.scions.length d7,.slice B8 y.claim.checks.length d8] _ GY9.out rfl rfl rfl ?_) | fail)
           refine kc9.mono ?_
           rintro e w4 ⟨rfl,hb4⟩
           have HB4:=lh (HB3.out.trans (hb4.mono HB3.out.size))
           clear hb4 kc9
           go_wp2_with fail
           go_ret
           refine⟨congrArg (fun b=>Ending.returned (Value.bool b)) ?_,HB4.out⟩
           rw[HR.out,ms_eq]
           simp[H0.out,H1.out,H2.out,H3.out,H4.out,H5.out,H6.out,H7.out,H8.out,H9.out]
          | false =>
           have kc9:=SameClaim_any (x:=x.claim) (y:=y.claim) MX63.out MY63.out MX73.out MY73.out MX83.out MY83.out
           rw[h9] at kc9
           have H9:=lh h9
           clear h9
           go_wp2_with (first | (refine wpList_load_g rfl _ _ rfl g 34 rfl [.int .i64 x.claim.machine,.int .i64 x.claim.epoch,.slice A6 x.claim.stubs.length c6,.slice A7 x.claim.scions.length c7,.slice A8 x.claim.checks.length c8] _ GX9.out rfl rfl rfl ?_) | (refine wpList_load_g rfl _ _ rfl (g+1) 34 rfl [.int .i64 y.claim.machine,.int .i64 y.claim.epoch,.slice B6 y.claim.stubs.length d6,.slice B7 y.claim.scions.length d7,.slice B8 y.claim.checks.length d8] _ GY9.out rfl rfl rfl ?_) | fail)
           refine kc9.mono ?_
           rintro e w4 ⟨rfl,hb4⟩
           have HB4:=lh (HB3.out.trans (hb4.mono HB3.out.size))
           clear hb4 kc9
           go_wp2_with fail
           go_ret
           refine⟨congrArg (fun b=>Ending.returned (Value.bool b)) ?_,HB4.out⟩
           rw[HR.out,ms_eq]
           simp[H0.out,H1.out,H2.out,H3.out,H4.out,H5.out,H6.out,H7.out,H8.out,H9.out]
         | false =>
          have kc8:=SameAnswer_any (x:=x.answer) (y:=y.answer) MX52.out MY52.out
          rw[h8] at kc8
          have H8:=lh h8
          clear h8
          go_wp2_with (first | (refine wpList_load_g rfl _ _ rfl g 26 rfl [.int .i64 x.answer.machine,.int .i64 x.answer.owner,.int .u64 x.answer.number,.int .i64 x.answer.epoch,.bool x.answer.known,.bool x.answer.rooted,.int .i64 x.answer.last,.slice A5 x.answer.inset.length c5] _ GX8.out rfl rfl rfl ?_) | (refine wpList_load_g rfl _ _ rfl (g+1) 26 rfl [.int .i64 y.answer.machine,.int .i64 y.answer.owner,.int .u64 y.answer.number,.int .i64 y.answer.epoch,.bool y.answer.known,.bool y.answer.rooted,.int .i64 y.answer.last,.slice B5 y.answer.inset.length d5] _ GY8.out rfl rfl rfl ?_) | fail)
          refine kc8.mono ?_
          rintro e w3 ⟨rfl,hb3⟩
          have HB3:=lh (HB2.out.trans (hb3.mono HB2.out.size))
          clear hb3 kc8 xc24 yc24 xc25 yc25
          go_wp2_with fail
          go_ret
          refine⟨congrArg (fun b=>Ending.returned (Value.bool b)) ?_,HB3.out⟩
          rw[HR.out,ms_eq]
          simp[H0.out,H1.out,H2.out,H3.out,H4.out,H5.out,H6.out,H7.out,H8.out]
        | false =>
         have q7:∀ W,(binOp .eql 34 (.agg #[.int .i64 x.tm,.int .i64 x.ts]) (.agg #[.int .i64 y.tm,.int .i64 y.ts])).run Tryz.prog W=.ok (.bool false) W:=fun W=>by rw[eql_tr,h7]
         have H7:=lh h7
         clear h7
         go_wp2_with fail
         go_ret
         refine⟨congrArg (fun b=>Ending.returned (Value.bool b)) ?_,HB2.out⟩
         rw[HR.out,ms_eq]
         simp[H0.out,H1.out,H2.out,H3.out,H4.out,H5.out,H6.out,H7.out]
       | false =>
        have kc6:=SameParcel_any (x:=x.parcel) (y:=y.parcel) MX21.out MY21.out MX31.out MY31.out MX41.out MY41.out
        rw[h6] at kc6
        have H6:=lh h6
        clear h6
        go_wp2_with (first | (refine wpList_load_g rfl _ _ rfl g 16 rfl [.int .u64 x.parcel.number,.int .i64 x.parcel.idm,.int .i64 x.parcel.ids,.int .i64 x.parcel.kind,.int .i64 x.parcel.cls,.slice A2 x.parcel.fields.length c2,.slice A3 x.parcel.mail.length c3,.slice A4 x.parcel.watches.length c4] _ GX6.out rfl rfl rfl ?_) | (refine wpList_load_g rfl _ _ rfl (g+1) 16 rfl [.int .u64 y.parcel.number,.int .i64 y.parcel.idm,.int .i64 y.parcel.ids,.int .i64 y.parcel.kind,.int .i64 y.parcel.cls,.slice B2 y.parcel.fields.length d2,.slice B3 y.parcel.mail.length d3,.slice B4 y.parcel.watches.length d4] _ GY6.out rfl rfl rfl ?_) | fail)
        refine kc6.mono ?_
        rintro e w2 ⟨rfl,hb2⟩
        have HB2:=lh (HB1.out.trans (hb2.mono HB1.out.size))
        clear hb2 kc6
        go_wp2_with fail
        go_ret
        refine⟨congrArg (fun b=>Ending.returned (Value.bool b)) ?_,HB2.out⟩
        rw[HR.out,ms_eq]
        simp[H0.out,H1.out,H2.out,H3.out,H4.out,H5.out,H6.out]
      | false =>
       have kc5:=SameLetter_any (x:=x.letter) (y:=y.letter) MX10.out MY10.out
       rw[h5] at kc5
       have H5:=lh h5
       clear h5
       go_wp2_with (first | (refine wpList_load_g rfl _ _ rfl g 12 rfl [.int .i64 x.letter.idm,.int .i64 x.letter.ids,.string x.letter.meth,.slice A1 x.letter.args.length c1] _ GX5.out rfl rfl rfl ?_) | (refine wpList_load_g rfl _ _ rfl (g+1) 12 rfl [.int .i64 y.letter.idm,.int .i64 y.letter.ids,.string y.letter.meth,.slice B1 y.letter.args.length d1] _ GY5.out rfl rfl rfl ?_) | fail)
       refine kc5.mono ?_
       rintro e w1 ⟨rfl,hb1⟩
       have HB1:=lh (HB0.out.trans (hb1.mono HB0.out.size))
       clear hb1 kc5 xa0 ya0 xa1 ya1 xa2 ya2 xa3 ya3 xa4 ya4 xa5 ya5 xa6 ya6 xa7 ya7 xa8 ya8 xa9 ya9 xa10 ya10 xa11 ya11
       go_wp2_with fail
       go_ret
       refine⟨congrArg (fun b=>Ending.returned (Value.bool b)) ?_,HB1.out⟩
       rw[HR.out,ms_eq]
       simp[H0.out,H1.out,H2.out,H3.out,H4.out,H5.out]
     | false =>
      have q4:∀ W,(binOp .eql 26 (.agg #[.int .i64 x.ref.kind,.int .i64 x.ref.int,.int .i64 x.ref.owner,.int .u64 x.ref.number,.int .i64 x.ref.idm,.int .i64 x.ref.ids,.int .i64 x.ref.cls,.bool x.ref.weak]) (.agg #[.int .i64 y.ref.kind,.int .i64 y.ref.int,.int .i64 y.ref.owner,.int .u64 y.ref.number,.int .i64 y.ref.idm,.int .i64 y.ref.ids,.int .i64 y.ref.cls,.bool y.ref.weak])).run Tryz.prog W=.ok (.bool false) W:=fun W=>by rw[eql_rfs,h4]
      have H4:=lh h4
      clear h4
      go_wp2_with fail
      go_ret
      refine⟨congrArg (fun b=>Ending.returned (Value.bool b)) ?_,HB0.out⟩
      rw[HR.out,ms_eq]
      simp[H0.out,H1.out,H2.out,H3.out,H4.out]
    | false =>
     have q3:(x.name.toList == y.name.toList)=false:=by rw[bytes_eq];exact h3
     have H3:=lh h3
     clear h3
     go_wp2_with fail
     go_ret
     refine⟨congrArg (fun b=>Ending.returned (Value.bool b)) ?_,HB0.out⟩
     rw[HR.out,ms_eq]
     simp[H0.out,H1.out,H2.out,H3.out]
   | false =>
    have q2:(x.asker == y.asker)=false:=h2
    have H2:=lh h2
    clear h2
    go_wp2_with fail
    go_ret
    refine⟨congrArg (fun b=>Ending.returned (Value.bool b)) ?_,HB0.out⟩
    rw[HR.out,ms_eq]
    simp[H0.out,H1.out,H2.out]
  | false =>
   have q1:(x.number == y.number)=false:=h1
   have H1:=lh h1
   clear h1
   go_wp2_with fail
   go_ret
   refine⟨congrArg (fun b=>Ending.returned (Value.bool b)) ?_,HB0.out⟩
   rw[HR.out,ms_eq]
   simp[H0.out,H1.out]
 | false =>
  have q0:(x.kind == y.kind)=false:=h0
  have H0:=lh h0
  clear h0
  go_wp2_with fail
  go_ret
  refine⟨congrArg (fun b=>Ending.returned (Value.bool b)) ?_,HB0.out⟩
  rw[HR.out,ms_eq]
  simp[H0.out]
end
section
open Go.RowKit
theorem encS_lenR {s:ByteArray} (h:sP s):(encS s).length≤4105:=by
 have h1:(s.size:Int)≤4096:=h
 have h2:=encU_len (n:=(s.size:Int)) (by omega)
 unfold encS
 rw[List.length_append]
 have h3:(bts s).length=s.size:=by simp[bts]
 omega
theorem encL_lenR {α:Type} {f:α→List Int} {l:List α} {P:α→Prop} (h:lP P l) (b:Nat) (hb:∀ x,P x→(f x).length≤b):(encL f l).length≤9+b*1024:=by
 have h1:=encU_len (n:=(l.length:Int)) (by have:=h.1;omega)
 have h2:∀ k:List α,(∀ x∈k,P x)→(k.flatMap f).length≤b*k.length:=fun k=>by
  induction k with
  | nil=>intro _;simp
  | cons x r ih =>
   intro hk
   have:=ih fun y hy=>hk y (List.mem_cons_of_mem _ hy)
   have:=hb x (hk x (List.mem_cons_self ..))
   rw[List.flatMap_cons,List.length_append,List.length_cons,Nat.mul_succ]
   omega
 have h3:=h2 l h.2
 have h4:b*l.length≤b*1024:=Nat.mul_le_mul_left b (by have:=h.1;omega)
 unfold encL
 rw[List.length_append]
 omega
theorem encLt_len {x:Lt} (h:ltP x):(encLt x).length≤69668:=by
 have h1:=encI_lenR h.1
 have h2:=encI_lenR h.2.1
 have h3:=encS_lenR h.2.2.1
 have h4:=encL_lenR (f:=encRf) h.2.2.2 64 fun x hx=>encRf_len hx
 unfold encLt
 simp only[List.length_append]
 omega
theorem encWa_len {x:Wa} (h:waP x):(encWa x).length≤4196:=by
 have h1:=encI_lenR h.1
 have h2:=encI_lenR h.2.1
 have h3:=encS_lenR h.2.2.1
 have h4:=encI_lenR h.2.2.2.1
 have h5:=encRf_len h.2.2.2.2
 unfold encWa
 simp only[List.length_append]
 omega
theorem encPc_len {x:Pc} (h:pcP x):(encPc x).length≤75702344:=by
 have h1:=encU_len h.1.2
 have h2:=encI_lenR h.2.1
 have h3:=encI_lenR h.2.2.1
 have h4:=encI_lenR h.2.2.2.1
 have h5:=encI_lenR h.2.2.2.2.1
 have h6:=encL_lenR (f:=encRf) h.2.2.2.2.2.1 64 fun x hx=>encRf_len hx
 have h7:=encL_lenR (f:=encLt) h.2.2.2.2.2.2.1 69668 fun x hx=>encLt_len hx
 have h8:=encL_lenR (f:=encWa) h.2.2.2.2.2.2.2 4196 fun x hx=>encWa_len hx
 unfold encPc
 simp only[List.length_append]
 omega
theorem encAn_len {x:An} (h:anP x):(encAn x).length≤27704:=by
 have h1:=encI_lenR h.1
 have h2:=encI_lenR h.2.1
 have h3:=encI_lenR h.2.2.1
 have h4:=encI_lenR h.2.2.2.1
 have h5:=encU_len h.2.2.2.2.1.2
 have h6:=encB_one x.known
 have h7:=encB_one x.rooted
 have h8:=encL_lenR (f:=encIn) h.2.2.2.2.2 27 fun(y:In) (hy:inP y)=>by
  have a:=encI_lenR hy.1
  have b:=encI_lenR hy.2.1
  have c:=encU_len hy.2.2.2
  show(encIn y).length≤27
  unfold encIn
  simp only[List.length_append]
  omega
 unfold encAn
 simp only[List.length_append]
 omega
theorem encNd_len {y:Nd} (hy:ndP y):(encNd y).length≤27:=by
 have a:=encI_lenR hy.1
 have b:=encI_lenR hy.2.1
 have c:=encU_len hy.2.2.2
 unfold encNd
 simp only[List.length_append]
 omega
theorem encCl_len {x:Cl} (h:clP x):(encCl x).length≤82989:=by
 have h1:=encI_lenR h.1
 have h2:=encI_lenR h.2.1
 have h3:=encL_lenR (f:=encNd) h.2.2.1 27 fun x hx=>encNd_len hx
 have h4:=encL_lenR (f:=encNd) h.2.2.2.1 27 fun x hx=>encNd_len hx
 have h5:=encL_lenR (f:=encNd) h.2.2.2.2 27 fun x hx=>encNd_len hx
 unfold encCl
 simp only[List.length_append]
 omega
theorem encMs_len {x:Ms} (h:msP x):(encMs x).length≤80000000:=by
 obtain⟨h1,h2,h3,h4,h5,h6,h7,h8,h9,h10,h11⟩:=h
 have a1:=encI_lenR h1
 have a2:=encI_lenR h2
 have a3:=encI_lenR h3
 have a4:=encI_lenR h4
 have a5:=encU_len h5.2
 have a6:=encS_lenR h6
 have a7:=encRf_len h7
 have a8:=encLt_len h8
 have a9:=encPc_len h9
 have b1:=encAn_len h10
 have b2:=encCl_len h11
 unfold encMs
 simp only[List.length_append]
 omega
theorem encL_b8R {α:Type} {f:α→List Int} {l:List α} {P:α→Prop} (h:lP P l) (hb:∀ x,P x→B8 (f x)):B8 (encL f l):=by
 refine(encU_b8 (by have:=h.1;omega)).app ?_
 intro y hy
 obtain⟨x,hx,hy⟩:=List.mem_flatMap.1 hy
 exact hb x (h.2 x hx) y hy
theorem encI_b8R {n:Int} (h:I64 n):B8 (encI n):=encU_b8 (zz_rg h).2
theorem encS_b8R {s:ByteArray} (h:sP s):B8 (encS s):=(encU_b8 (by have:(s.size:Int)≤4096:=h;omega)).app (bts_b8 s)
theorem encB_b8R (x:Bool):B8 (encB x):=by cases x <;> exact B8.one (by decide) (by decide)
theorem encRf_b8 {x:Rf} (h:rfP x):B8 (encRf x) :=
 ((((((encI_b8R h.1).app (encI_b8R h.2.1)).app (encI_b8R h.2.2.1)).app (encI_b8R h.2.2.2.1)).app (encU_b8 h.2.2.2.2.1.2)).app ((encI_b8R h.2.2.2.2.2.1).app (encI_b8R h.2.2.2.2.2.2))).app (encB_b8R _)
theorem encLt_b8 {x:Lt} (h:ltP x):B8 (encLt x):=(((encI_b8R h.1).app (encI_b8R h.2.1)).app (encS_b8R h.2.2.1)).app (encL_b8R h.2.2.2 fun x hx=>encRf_b8 hx)
theorem encWa_b8 {x:Wa} (h:waP x):B8 (encWa x):=((((encI_b8R h.1).app (encI_b8R h.2.1)).app (encS_b8R h.2.2.1)).app (encI_b8R h.2.2.2.1)).app (encRf_b8 h.2.2.2.2)
theorem encPc_b8 {x:Pc} (h:pcP x):B8 (encPc x) :=
 (((((encU_b8 h.1.2).app ((encI_b8R h.2.1).app (encI_b8R h.2.2.1))).app ((encI_b8R h.2.2.2.1).app (encI_b8R h.2.2.2.2.1))).app (encL_b8R h.2.2.2.2.2.1 fun x hx=>encRf_b8 hx)).app (encL_b8R h.2.2.2.2.2.2.1 fun x hx=>encLt_b8 hx)).app (encL_b8R h.2.2.2.2.2.2.2 fun x hx=>encWa_b8 hx)
theorem encIn_b8 {x:In} (h:inP x):B8 (encIn x):=((encI_b8R h.1).app (encI_b8R h.2.1)).app (encU_b8 h.2.2.2)
theorem encNd_b8 {x:Nd} (h:ndP x):B8 (encNd x):=((encI_b8R h.1).app (encI_b8R h.2.1)).app (encU_b8 h.2.2.2)
theorem encAn_b8 {x:An} (h:anP x):B8 (encAn x) :=
 ((((((encI_b8R h.1).app (encI_b8R h.2.1)).app (encI_b8R h.2.2.1)).app (encI_b8R h.2.2.2.1)).app (encU_b8 h.2.2.2.2.1.2)).app (encB_b8R _)).app (encB_b8R _) |>.app (encL_b8R h.2.2.2.2.2 fun x hx=>encIn_b8 hx)
theorem encCl_b8 {x:Cl} (h:clP x):B8 (encCl x) :=
 ((((encI_b8R h.1).app (encI_b8R h.2.1)).app (encL_b8R h.2.2.1 fun x hx=>encNd_b8 hx)).app (encL_b8R h.2.2.2.1 fun x hx=>encNd_b8 hx)).app (encL_b8R h.2.2.2.2 fun x hx=>encNd_b8 hx)
theorem encMs_b8 {x:Ms} (h:msP x):B8 (encMs x):=by
 obtain⟨h1,h2,h3,h4,h5,h6,h7,h8,h9,h10,h11⟩:=h
 exact((((((((((encI_b8R h1).app (encI_b8R h2)).app (encI_b8R h3)).app (encI_b8R h4)).app (encU_b8 h5.2)).app (encS_b8R h6)).app (encRf_b8 h7)).app (encLt_b8 h8)).app (encPc_b8 h9)).app (encAn_b8 h10)).app (encCl_b8 h11)
end
section
open Go.RowKit Go.Sort
attribute [local go_sem] Oper.semAt_some
def args0:List Rf:=[⟨0,0,0,0,0,0,0,false⟩,⟨1,5,0,0,0,0,0,false⟩,⟨3,0,2,9,1,4,0,false⟩]
def x0:Ms:={ Ms.zero with number:=7,letter:=⟨1,3,⟨#[104,105,116]⟩,args0⟩ }
def row0M (b1:Nat):Array Value:=#[.int .i64 0,.int .u64 7,.int .i64 0,.string ⟨#[]⟩,.int .i64 0,.int .i64 0,.int .i64 0,.int .u64 0,.int .i64 0,.int .i64 0,.int .i64 0,.bool false,.int .i64 1,.int .i64 3,.string ⟨#[104,105,116]⟩,.slice (some ⟨b1,0,none⟩) 3 3,.int .u64 0,.int .i64 0,.int .i64 0,.int .i64 0,.int .i64 0,.slice none 0 0,.slice none 0 0,.slice none 0 0,.int .i64 0,.int .i64 0,.int .i64 0,.int .i64 0,.int .u64 0,.int .i64 0,.bool false,.bool false,.int .i64 0,.slice none 0 0,.int .i64 0,.int .i64 0,.slice none 0 0,.slice none 0 0,.slice none 0 0]
theorem x0_p:msP x0:=by
 obtain⟨zp,zi,zs,zr,zl,zc,za,zq⟩:=zero_p
 have i:∀ n:Int,0≤n→n≤100→I64 n:=fun n h1 h2=>by unfold I64;omega
 refine⟨zi,zi,zi,zi,by show P64 7;unfold P64;omega,zs,zr,⟨i 1 (by omega) (by omega),i 3 (by omega) (by omega),by show sP ⟨#[104,105,116]⟩;unfold sP;decide,?_⟩,zc,za,zq⟩
 show lP rfP args0
 refine⟨by decide,fun x hx=>?_⟩
 have:x=⟨0,0,0,0,0,0,0,false⟩ ∨ x=⟨1,5,0,0,0,0,0,false⟩ ∨ x=⟨3,0,2,9,1,4,0,false⟩:=by simpa [args0] using hx
 rcases this with rfl | rfl | rfl <;> refine⟨i _ ?_ ?_,i _ ?_ ?_,i _ ?_ ?_,i _ ?_ ?_,?_,i _ ?_ ?_,i _ ?_ ?_⟩ <;> first | decide | (show P64 _;unfold P64;decide)
theorem x0_v:msV x0=true:=by decide
theorem dms_enc {x:Ms} (h:msP x) (hv:msV x=true):dms (encMs x)=(x,0):=by
 have:=codMs.fw x [] h
 rw[List.append_nil] at this
 unfold dms
 rw[this]
 simp[hv]
theorem dec_one {n:Nat} (h:n < 10):dec (n:Int)=⟨#[UInt8.ofNat (48+n)]⟩:=by rw[← dec_nat,Lib.decDigits_one h]
theorem x0_t:fmtV x0=⟨#[100,101,108,105,118,101,114,32,55,32,109,49,58,51,32,104,105,116,40,110,105,108,44,32,53,44,32,111,117,116,32,50,47,57,32,109,49,58,52,41]⟩:=by
 unfold fmtV
 rw[x0_v,if_pos rfl]
 have e1:dec 1=⟨#[49]⟩:=dec_one (n:=1) (by omega)
 have e2:dec 2=⟨#[50]⟩:=dec_one (n:=2) (by omega)
 have e3:dec 3=⟨#[51]⟩:=dec_one (n:=3) (by omega)
 have e4:dec 4=⟨#[52]⟩:=dec_one (n:=4) (by omega)
 have e5:dec 5=⟨#[53]⟩:=dec_one (n:=5) (by omega)
 have e7:dec 7=⟨#[55]⟩:=dec_one (n:=7) (by omega)
 have e9:dec 9=⟨#[57]⟩:=dec_one (n:=9) (by omega)
 have i1:idT 1 3=⟨#[109,49,58,51]⟩:=by unfold idT;rw[if_pos (by decide),e1,e3];rfl
 have i2:idT 1 4=⟨#[109,49,58,52]⟩:=by unfold idT;rw[if_pos (by decide),e1,e4];rfl
 have r0:rfT ⟨0,0,0,0,0,0,0,false⟩=⟨#[110,105,108]⟩:=rfl
 have r1:rfT ⟨1,5,0,0,0,0,0,false⟩=⟨#[53]⟩:=by show dec 5=_;exact e5
 have r2:rfT ⟨3,0,2,9,1,4,0,false⟩=⟨#[111,117,116,32,50,47,57,32,109,49,58,52]⟩:=by
  show⟨#[111,117,116,32]⟩++dec 2++⟨#[47]⟩++dec 9++⟨#[32]⟩++idT 1 4=_
  rw[e2,e9,i2];rfl
 show kS 0++(⟨#[32]⟩++dec 7++⟨#[32]⟩++idT 1 3++⟨#[32]⟩++⟨#[104,105,116]⟩++lsT args0)=_
 have l0:lsT args0=⟨#[40,110,105,108,44,32,53,44,32,111,117,116,32,50,47,57,32,109,49,58,52,41]⟩:=by
  unfold lsT args0
  rw[List.map_cons,List.map_cons,List.map_cons,List.map_nil,r0,r1,r2]
  rfl
 rw[e7,i1,l0]
 rfl
theorem x0_len:(encMs x0).length≤2147483648∧0 < (encMs x0).length:=by
 have h1:=encMs_len x0_p
 have h2:=encI_one x0.kind
 refine⟨by omega,?_⟩
 unfold encMs
 simp only[List.length_append]
 omega
set_option maxHeartbeats 4000000 in
theorem row0_in {w:World} {b1:Nat} (h:Bk w b1 26 #[.int .i64 0,.int .i64 0,.int .i64 0,.int .u64 0,.int .i64 0,.int .i64 0,.int .i64 0,.bool false,.int .i64 1,.int .i64 5,.int .i64 0,.int .u64 0,.int .i64 0,.int .i64 0,.int .i64 0,.bool false,.int .i64 3,.int .i64 0,.int .i64 2,.int .u64 9,.int .i64 1,.int .i64 4,.int .i64 0,.bool false]):MsI w x0 (row0M b1).toList:=by
 refine⟨some ⟨b1,0,none⟩,3,none,0,none,0,none,0,none,0,none,0,none,0,none,0,rfl,?_,LsR.tnil,LsR.tnil,LsR.tnil,LsR.tnil,LsR.tnil,LsR.tnil,LsR.tnil⟩
 unfold LsR
 rw[if_pos rfl]
 refine⟨by decide,by decide,.inr ⟨b1,0,rfl,h.lt,fun i x hx=>?_⟩⟩
 have hi:i < 3:=(List.getElem?_eq_some_iff.1 hx).1
 rcases (show i=0 ∨ i=1 ∨ i=2 by omega) with rfl | rfl | rfl <;> cases hx <;> refine⟨_,rfl,rfl,fun j v hv=>⟨?_,h.free _⟩⟩ <;> (have hj:j < 8:=(List.getElem?_eq_some_iff.1 hv).1) <;> rw[h.cell] <;> rcases (show j=0 ∨ j=1 ∨ j=2 ∨ j=3 ∨ j=4 ∨ j=5 ∨ j=6 ∨ j=7 by omega) with rfl | rfl | rfl | rfl | rfl | rfl | rfl | rfl <;> exact hv
set_option maxHeartbeats 8000000 in
theorem awake27 (w:World) (ht:Tb w):Calls Tryz.prog 10 #[] w (YesP w true):=by
 obtain⟨w1,hw1⟩:∃ w1,w1=w.alloc (.cells #[.int .i64 0,.int .i64 0,.int .i64 0,.int .u64 0,.int .i64 0,.int .i64 0,.int .i64 0,.bool false,.int .i64 1,.int .i64 5,.int .i64 0,.int .u64 0,.int .i64 0,.int .i64 0,.int .i64 0,.bool false,.int .i64 3,.int .i64 0,.int .i64 2,.int .u64 9,.int .i64 1,.int .i64 4,.int .i64 0,.bool false] 26):=⟨_,rfl⟩
 obtain⟨b1,hb1⟩:∃ b1,b1=w.heap.size:=⟨_,rfl⟩
 have hB1:Below w.heap.size w w1:=by rw[hw1];exact below_one _ _
 have hq1:Bk w1 b1 26 #[.int .i64 0,.int .i64 0,.int .i64 0,.int .u64 0,.int .i64 0,.int .i64 0,.int .i64 0,.bool false,.int .i64 1,.int .i64 5,.int .i64 0,.int .u64 0,.int .i64 0,.int .i64 0,.int .i64 0,.bool false,.int .i64 3,.int .i64 0,.int .i64 2,.int .u64 9,.int .i64 1,.int .i64 4,.int .i64 0,.bool false]:=by rw[hw1,hb1];exact Bk.new _ _ _
 have HB1:=lh hB1
 have HQ1:=lh hq1
 have HT:=lh ht
 clear hB1 hq1 ht
 go_enter Tryz.func10,Tryz.ntmps10
 go_upto_region 2 with fail
 rw[← hw1,← hb1]
 clear hw1 hb1
 refine wp_region_list ?_
 go_upto_region 3 with (first | (refine wpList_build rfl _ _ rfl (by kernel_rfl) ?_) | (refine wpList_store_rowK rfl _ _ _ rfl w1.heap.size (row0M b1) (by kernel_rfl) (by kernel_rfl) _ _ (heap_alloc_new w1 _) (by kernel_rfl) (by kernel_rfl) (by kernel_rfl) ?_;intro w2 hk2 hp2) | fail)
 have hmi:=row0_in (HQ1.out.below (show Below w1.heap.size w1 w2 from hp2.toBelow (below_one _ _) (by simp) fun j e=>by omega) HQ1.out.lt)
 have hb2:Below w1.heap.size w1 w2:=hp2.toBelow (below_one _ _) (by simp) fun j e=>by omega
 obtain⟨g2,hg2⟩:∃ g2,g2=w1.heap.size:=⟨_,rfl⟩
 rw[← hg2] at hk2 ⊢
 obtain⟨M,hM⟩:∃ M,M=row0M b1:=⟨_,rfl⟩
 obtain⟨r,hr⟩:∃ r,r=(row0M b1).toList:=⟨_,rfl⟩
 rw[← hM] at hk2
 rw[← hr] at hmi
 have hMr:M=r.toArray:=by rw[hM,hr]
 have HSZ:Hid (M.toList.length=39):=lh (by rw[hM];rfl)
 have HM:=lh hMr
 have HI2:=lh hmi
 have HK2:=lh hk2
 have HB2:=lh (HB1.out.trans (hb2.mono HB1.out.size))
 have HT2:=lh (HT.out.below HB2.out)
 obtain⟨l,hl⟩:∃ l,l=encMs x0:=⟨_,rfl⟩
 have HL:Hid (l.length≤2147483648∧B8 l∧dms l=(x0,0)):=lh (by rw[hl];exact⟨x0_len.1,encMs_b8 x0_p,dms_enc x0_p x0_v⟩)
 have hll:0 < l.length:=by rw[hl];exact x0_len.2
 have cE:Calls Tryz.prog 13 #[.agg M] w2 fun e w'=>∃ v,e=.returned (.tuple #[v,.int .i64 0])∧w'.ownsRow w2.heap.size 5 1 v l.length (byts l)∧Below w2.heap.size w2 w':=by
  have:=Encode_any HI2.out x0_p x0_len.1
  rw[x0_v,if_pos rfl,if_pos rfl,← hl,← HM.out] at this
  exact this
 clear hmi hk2 hp2 hb2 hg2 hM hr hMr hl
 refine wp_region_list ?_
 refine wpList_load_mid rfl _ _ rfl g2 0 rfl M.toList _ HK2.out.rng rfl rfl (by rw[HSZ.out];rfl) ?_
 simp only[Array.toArray_toList]
 go_upto_region 4 with (go_at_call 13;refine cE.mono ?_;rintro e w3 ⟨v3,rfl,ho3,hb3⟩)
 obtain⟨A3,c3,rfl,_⟩:=own_shape ho3
 have HB3:=lh (HB2.out.trans (hb3.mono HB2.out.size))
 have HK3:=lh (HK2.out.below hb3 HK2.out.lt)
 have HI3:=lh (HI2.out.below hb3)
 have HT3:=lh (HT2.out.below hb3)
 have cD:=Decode_any (c:=c3) (own_sl ho3) (own_le ho3) HL.out.2.1 HL.out.1
 rw[HL.out.2.2] at cD
 clear cE ho3 hb3
 refine wp_region_list ?_
 go_wp2_with fail
 refine cD.mono ?_
 rintro e w4 ⟨r4,rfl,hi4,hb4⟩
 have hq4:r4.toArray.toList.length=39:=hi4.len
 obtain⟨N4,hN⟩:∃ N4,N4=r4.toArray:=⟨_,rfl⟩
 rw[← hN] at hq4 ⊢
 have hq5:N4.size=39:=by rw[Array.length_toList] at hq4;exact hq4
 have h1c:N4.all (·.oneCell')=true:=by rw[hN];exact msOne hi4
 have HN:=lh hN
 have HN4:=lh hq4
 have HS4:=lh hq5
 have HC4:=lh h1c
 have HI4:=lh hi4
 have HB34:=lh hb4
 have HB4:=lh (HB3.out.trans (hb4.mono HB3.out.size))
 clear hi4 hq4 hq5 h1c hN hb4 cD
 go_upto_region 5 with (first | (refine wpList_store_rowK (P:=Tryz.prog) rfl 42 _ _ rfl w4.heap.size N4 rfl rfl _ _ (heap_alloc_new w4 _) (by rw[HS4.out];rfl) (by rw[HS4.out];rfl) HC4.out ?_;intro w5 hk5 hp5) | fail)
 have hb5:Below w4.heap.size w4 w5:=hp5.toBelow (below_one _ _) (by simp) fun j e=>by omega
 have HB5:=lh (HB4.out.trans (hb5.mono HB4.out.size))
 have HK5:=lh hk5
 have HKM5:=lh ((HK3.out.below HB34.out HK3.out.lt).below hb5 (Nat.lt_of_lt_of_le HK3.out.lt HB34.out.size))
 have HI5:=lh ((HI3.out.below HB34.out).below hb5)
 have HX5:=lh (HI4.out.below hb5)
 have HT5:=lh ((HT3.out.below HB34.out).below hb5)
 obtain⟨g5,hg5⟩:∃ g5,g5=w4.heap.size:=⟨_,rfl⟩
 rw[← hg5] at HK5 ⊢
 have cS:Calls Tryz.prog 14 #[.agg N4,.agg M] w5 (YesP w5 true):=by
  have:=Same_any HX5.out HI5.out
  rw[decide_eq_true rfl,← HN.out,← HM.out] at this
  exact this
 have h0l:(0:Int) < (l.length:Int):=by omega
 clear hk5 hp5 hb5 hg5
 go_wp2_with (first | (refine wpList_load_g rfl _ _ rfl g5 0 rfl N4.toList _ HK5.out.rng rfl rfl (by rw[HN4.out];rfl) ?_;simp only[Array.toArray_toList]) | (refine wpList_load_g rfl _ _ rfl g2 0 rfl M.toList _ HKM5.out.rng rfl rfl (by rw[HSZ.out];rfl) ?_;simp only[Array.toArray_toList]) | fail)
 refine cS.mono ?_
 rintro e w6 ⟨rfl,hb6⟩
 have HB6:=lh (HB5.out.trans (hb6.mono HB5.out.size))
 have HKM6:=lh (HKM5.out.below hb6 HKM5.out.lt)
 have cF:Calls Tryz.prog 18 #[.agg M] w6 (TxP w6 ⟨#[100,101,108,105,118,101,114,32,55,32,109,49,58,51,32,104,105,116,40,110,105,108,44,32,53,44,32,111,117,116,32,50,47,57,32,109,49,58,52,41]⟩):=by
  have:=Format_any (HI5.out.below hb6) x0_p x0_len.1 (HT5.out.below hb6)
  rw[x0_t,← HM.out] at this
  exact this
 clear cS hb6
 go_wp2_with (first | (refine wpList_load_g rfl _ _ rfl g2 0 rfl M.toList _ HKM6.out.rng rfl rfl (by rw[HSZ.out];rfl) ?_;simp only[Array.toArray_toList]) | fail)
 refine cF.mono ?_
 rintro e w7 ⟨rfl,hb7⟩
 have HB7:=lh (HB6.out.trans (hb7.mono HB6.out.size))
 clear cF hb7
 go_wp2_with fail
 go_ret
 exact⟨rfl,HB7.out⟩
end
end Go.Proofs.YtmbnlccafcfbeaaGreatDoor
