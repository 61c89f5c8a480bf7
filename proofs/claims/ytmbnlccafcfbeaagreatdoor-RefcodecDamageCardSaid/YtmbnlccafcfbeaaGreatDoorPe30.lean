/- Parts of the proof: RsE, RsF. -/
import Derived.Lib.QuietBelow
import Derived.Test.YtmbnlccafcfbeaaGreatDoorPeA
import Derived.Test.YtmbnlccafcfbeaaGreatDoorPe27
import Derived.Test.YtmbnlccafcfbeaaGreatDoorPe29
set_option linter.unusedVariables false
set_option linter.unusedSimpArgs false
set_option linter.unusedSectionVars false
set_option maxRecDepth 100000
namespace Go.Proofs.YtmbnlccafcfbeaaGreatDoor
section
open Go.RowKit Go.Sort
attribute [local go_sem] Oper.semAt_some
set_option maxHeartbeats 2000000 in
theorem eql_rfs (w:World) (x y:Rf):(binOp .eql 26 (.agg #[.int .i64 x.kind,.int .i64 x.int,.int .i64 x.owner,.int .u64 x.number,.int .i64 x.idm,.int .i64 x.ids,.int .i64 x.cls,.bool x.weak]) (.agg #[.int .i64 y.kind,.int .i64 y.int,.int .i64 y.owner,.int .u64 y.number,.int .i64 y.idm,.int .i64 y.ids,.int .i64 y.cls,.bool y.weak])).run Tryz.prog w=.ok (.bool (decide (x=y))) w:=by
 cases x;cases y
 go_simp
 repeat' split
 all_goals simp_all
theorem ms_eq (x y:Ms):decide (x=y)=(decide (x.kind=y.kind) && decide (x.number=y.number) && decide (x.asker=y.asker) && decide (x.name=y.name) && decide (x.ref=y.ref) && decide (x.letter=y.letter) && decide (x.parcel=y.parcel) && decide (x.tm=y.tm∧x.ts=y.ts) && decide (x.answer=y.answer) && decide (x.claim=y.claim)):=by
 cases x;cases y
 simp only[Ms.mk.injEq]
 rw[Bool.eq_iff_iff]
 simp only[decide_eq_true_eq,Bool.and_eq_true]
 exact⟨fun⟨a,b,c,d,e,f,g,h,i,j,k⟩=>⟨⟨⟨⟨⟨⟨⟨⟨⟨a,b⟩,c⟩,d⟩,e⟩,f⟩,g⟩,h,i⟩,j⟩,k⟩,fun⟨⟨⟨⟨⟨⟨⟨⟨⟨a,b⟩,c⟩,d⟩,e⟩,f⟩,g⟩,h,i⟩,j⟩,k⟩=>⟨a,b,c,d,e,f,g,h,i,j,k⟩⟩
theorem eql_tr (w:World) (a b c d:Int):(binOp .eql 34 (.agg #[.int .i64 a,.int .i64 b]) (.agg #[.int .i64 c,.int .i64 d])).run Tryz.prog w=.ok (.bool (decide (a=c∧b=d))) w:=by
 go_simp
 repeat' split
 all_goals simp_all
theorem bk_sub {w:World} {g:Nat} {t:TypeId} {M:Array Value} (h:Bk w g t M) (o n:Nat) {l:List Value} (hl:l=(M.toList.drop o).take n):w.rangeAt g o l:=fun j v hv=>by
 subst hl
 rw[h.cell (o+j)]
 have hj:j < n:=by
  have:=(List.getElem?_eq_some_iff.1 hv).1
  rw[List.length_take] at this
  omega
 rw[List.getElem?_take_of_lt hj,List.getElem?_drop] at hv
 simpa using hv
set_option maxHeartbeats 8000000 in
theorem Same_any {w:World} {x y:Ms} {r1 r2:List Value} (h1:MsI w x r1) (h2:MsI w y r2):Calls Tryz.prog 14 #[.agg r1.toArray,.agg r2.toArray] w (YesP w (decide (x=y))):=by
 obtain⟨A1,c1,A2,c2,A3,c3,A4,c4,A5,c5,A6,c6,A7,c7,A8,c8,hr1,hx1,hx2,hx3,hx4,hx5,hx6,hx7,hx8⟩:=h1
 obtain⟨B1,d1,B2,d2,B3,d3,B4,d4,B5,d5,B6,d6,B7,d7,B8,d8,hr2,hy1,hy2,hy3,hy4,hy5,hy6,hy7,hy8⟩:=h2
 obtain⟨M,hM⟩:∃ M,M=r1.toArray:=⟨_,rfl⟩
 obtain⟨L,hL⟩:∃ L,L=r2.toArray:=⟨_,rfl⟩
 rw[← hM,← hL]
 rw[hr1] at hM
 rw[hr2] at hL
 clear hr1 hr2
 have HM:=lh hM
 have HL:=lh hL
 obtain⟨R,hR⟩:∃ R,R=decide (x=y):=⟨_,rfl⟩
 rw[← hR]
 have HR:=lh hR
 obtain⟨W,hW⟩:∃ W,W=(w.alloc (.cells M 42)).alloc (.cells L 42):=⟨_,rfl⟩
 obtain⟨g,hg⟩:∃ g,g=w.heap.size:=⟨_,rfl⟩
 have hb0:Below w.heap.size w W:=by rw[hW];exact((Below.refl _ _).alloc (Nat.le_refl _) _).alloc (by simp) _
 have hk0:Bk W g 42 M:=by rw[hW,hg];exact(Bk.new _ _ _).alloc _
 have hj0:Bk W (g+1) 42 L:=by rw[hW,hg];have:=Bk.new (w.alloc (.cells M 42)) 42 L;simpa using this
 have MX10:Hid (LsI (flat rfC) 26 8 W A1 c1 x.letter.args):=lh ((show LsI (flat rfC) 26 8 w A1 c1 x.letter.args from hx1).below (flat_ru _) (flat_rk _) hb0)
 have MY10:Hid (LsI (flat rfC) 26 8 W B1 d1 y.letter.args):=lh ((show LsI (flat rfC) 26 8 w B1 d1 y.letter.args from hy1).below (flat_ru _) (flat_rk _) hb0)
 have MX20:Hid (LsI (flat rfC) 26 8 W A2 c2 x.parcel.fields):=lh ((show LsI (flat rfC) 26 8 w A2 c2 x.parcel.fields from hx2).below (flat_ru _) (flat_rk _) hb0)
 have MY20:Hid (LsI (flat rfC) 26 8 W B2 d2 y.parcel.fields):=lh ((show LsI (flat rfC) 26 8 w B2 d2 y.parcel.fields from hy2).below (flat_ru _) (flat_rk _) hb0)
 have MX30:Hid (LsI (LtR) 29 4 W A3 c3 x.parcel.mail):=lh ((show LsI (LtR) 29 4 w A3 c3 x.parcel.mail from hx3).below (ltR_ru) (ltR_rk) hb0)
 have MY30:Hid (LsI (LtR) 29 4 W B3 d3 y.parcel.mail):=lh ((show LsI (LtR) 29 4 w B3 d3 y.parcel.mail from hy3).below (ltR_ru) (ltR_rk) hb0)
 have MX40:Hid (LsI (flat waC) 65 12 W A4 c4 x.parcel.watches):=lh ((show LsI (flat waC) 65 12 w A4 c4 x.parcel.watches from hx4).below (flat_ru _) (flat_rk _) hb0)
 have MY40:Hid (LsI (flat waC) 65 12 W B4 d4 y.parcel.watches):=lh ((show LsI (flat waC) 65 12 w B4 d4 y.parcel.watches from hy4).below (flat_ru _) (flat_rk _) hb0)
 have MX50:Hid (LsI (flat inC) 99 3 W A5 c5 x.answer.inset):=lh ((show LsI (flat inC) 99 3 w A5 c5 x.answer.inset from hx5).below (flat_ru _) (flat_rk _) hb0)
 have MY50:Hid (LsI (flat inC) 99 3 W B5 d5 y.answer.inset):=lh ((show LsI (flat inC) 99 3 w B5 d5 y.answer.inset from hy5).below (flat_ru _) (flat_rk _) hb0)
 have MX60:Hid (LsI (flat ndC) 136 3 W A6 c6 x.claim.stubs):=lh ((show LsI (flat ndC) 136 3 w A6 c6 x.claim.stubs from hx6).below (flat_ru _) (flat_rk _) hb0)
 have MY60:Hid (LsI (flat ndC) 136 3 W B6 d6 y.claim.stubs):=lh ((show LsI (flat ndC) 136 3 w B6 d6 y.claim.stubs from hy6).below (flat_ru _) (flat_rk _) hb0)
 have MX70:Hid (LsI (flat ndC) 136 3 W A7 c7 x.claim.scions):=lh ((show LsI (flat ndC) 136 3 w A7 c7 x.claim.scions from hx7).below (flat_ru _) (flat_rk _) hb0)
 have MY70:Hid (LsI (flat ndC) 136 3 W B7 d7 y.claim.scions):=lh ((show LsI (flat ndC) 136 3 w B7 d7 y.claim.scions from hy7).below (flat_ru _) (flat_rk _) hb0)
 have MX80:Hid (LsI (flat ndC) 136 3 W A8 c8 x.claim.checks):=lh ((show LsI (flat ndC) 136 3 w A8 c8 x.claim.checks from hx8).below (flat_ru _) (flat_rk _) hb0)
 have MY80:Hid (LsI (flat ndC) 136 3 W B8 d8 y.claim.checks):=lh ((show LsI (flat ndC) 136 3 w B8 d8 y.claim.checks from hy8).below (flat_ru _) (flat_rk _) hb0)
 have xa0:W.cell? ⟨g,0,none⟩=some (.int .i64 x.kind):=(hk0.cell 0).trans (by rw[HM.out];rfl)
 have xa1:W.cell? ⟨g,1,none⟩=some (.int .u64 x.number):=(hk0.cell 1).trans (by rw[HM.out];rfl)
 have xa2:W.cell? ⟨g,2,none⟩=some (.int .i64 x.asker):=(hk0.cell 2).trans (by rw[HM.out];rfl)
 have xa3:W.cell? ⟨g,3,none⟩=some (.string x.name):=(hk0.cell 3).trans (by rw[HM.out];rfl)
 have xa4:W.cell? ⟨g,4,none⟩=some (.int .i64 x.ref.kind):=(hk0.cell 4).trans (by rw[HM.out];rfl)
 have xa5:W.cell? ⟨g,5,none⟩=some (.int .i64 x.ref.int):=(hk0.cell 5).trans (by rw[HM.out];rfl)
 have xa6:W.cell? ⟨g,6,none⟩=some (.int .i64 x.ref.owner):=(hk0.cell 6).trans (by rw[HM.out];rfl)
 have xa7:W.cell? ⟨g,7,none⟩=some (.int .u64 x.ref.number):=(hk0.cell 7).trans (by rw[HM.out];rfl)
 have xa8:W.cell? ⟨g,8,none⟩=some (.int .i64 x.ref.idm):=(hk0.cell 8).trans (by rw[HM.out];rfl)
 have xa9:W.cell? ⟨g,9,none⟩=some (.int .i64 x.ref.ids):=(hk0.cell 9).trans (by rw[HM.out];rfl)
 have xa10:W.cell? ⟨g,10,none⟩=some (.int .i64 x.ref.cls):=(hk0.cell 10).trans (by rw[HM.out];rfl)
 have xa11:W.cell? ⟨g,11,none⟩=some (.bool x.ref.weak):=(hk0.cell 11).trans (by rw[HM.out];rfl)
 have ya0:W.cell? ⟨g+1,0,none⟩=some (.int .i64 y.kind):=(hj0.cell 0).trans (by rw[HL.out];rfl)
 have ya1:W.cell? ⟨g+1,1,none⟩=some (.int .u64 y.number):=(hj0.cell 1).trans (by rw[HL.out];rfl)
 have ya2:W.cell? ⟨g+1,2,none⟩=some (.int .i64 y.asker):=(hj0.cell 2).trans (by rw[HL.out];rfl)
 have ya3:W.cell? ⟨g+1,3,none⟩=some (.string y.name):=(hj0.cell 3).trans (by rw[HL.out];rfl)
 have ya4:W.cell? ⟨g+1,4,none⟩=some (.int .i64 y.ref.kind):=(hj0.cell 4).trans (by rw[HL.out];rfl)
 have ya5:W.cell? ⟨g+1,5,none⟩=some (.int .i64 y.ref.int):=(hj0.cell 5).trans (by rw[HL.out];rfl)
 have ya6:W.cell? ⟨g+1,6,none⟩=some (.int .i64 y.ref.owner):=(hj0.cell 6).trans (by rw[HL.out];rfl)
 have ya7:W.cell? ⟨g+1,7,none⟩=some (.int .u64 y.ref.number):=(hj0.cell 7).trans (by rw[HL.out];rfl)
 have ya8:W.cell? ⟨g+1,8,none⟩=some (.int .i64 y.ref.idm):=(hj0.cell 8).trans (by rw[HL.out];rfl)
 have ya9:W.cell? ⟨g+1,9,none⟩=some (.int .i64 y.ref.ids):=(hj0.cell 9).trans (by rw[HL.out];rfl)
 have ya10:W.cell? ⟨g+1,10,none⟩=some (.int .i64 y.ref.cls):=(hj0.cell 10).trans (by rw[HL.out];rfl)
 have ya11:W.cell? ⟨g+1,11,none⟩=some (.bool y.ref.weak):=(hj0.cell 11).trans (by rw[HL.out];rfl)
 have HK0:=lh hk0
 have HJ0:=lh hj0
 have HB0:=lh hb0
 clear hb0 hk0 hj0 hR hM hL hx1 hy1 hx2 hy2 hx3 hy3 hx4 hy4 hx5 hy5 hx6 hy6 hx7 hy7 hx8 hy8
 go_enter Tryz.func14,Tryz.ntmps14
 go_upto_region 1 with fail
 rw[← hW,← hg]
 clear hW hg
 refine wp_region_list ?_
 cases h0:decide (x.kind=y.kind) with
 | true =>
  have q0:(x.kind == y.kind)=true:=h0
  have H0:=lh h0
  clear h0
  cases h1:decide (x.number=y.number) with
  | true =>
   have q1:(x.number == y.number)=true:=h1
   have H1:=lh h1
   clear h1
   cases h2:decide (x.asker=y.asker) with
   | true =>
    have q2:(x.asker == y.asker)=true:=h2
    have H2:=lh h2
    clear h2
    cases h3:decide (x.name=y.name) with
    | true =>
     have q3:(x.name.toList == y.name.toList)=true:=by rw[bytes_eq];exact h3
     have H3:=lh h3
     clear h3
     cases h4:decide (x.ref=y.ref) with
     | true =>
      have q4:∀ W,(binOp .eql 26 (.agg #[.int .i64 x.ref.kind,.int .i64 x.ref.int,.int .i64 x.ref.owner,.int .u64 x.ref.number,.int .i64 x.ref.idm,.int .i64 x.ref.ids,.int .i64 x.ref.cls,.bool x.ref.weak]) (.agg #[.int .i64 y.ref.kind,.int .i64 y.ref.int,.int .i64 y.ref.owner,.int .u64 y.ref.number,.int .i64 y.ref.idm,.int .i64 y.ref.ids,.int .i64 y.ref.cls,.bool y.ref.weak])).run Tryz.prog W=.ok (.bool true) W:=fun W=>by rw[eql_rfs,h4]
      have H4:=lh h4
      clear h4
      have RX5:=bk_sub (l:=[.int .i64 x.letter.idm,.int .i64 x.letter.ids,.string x.letter.meth,.slice A1 x.letter.args.length c1]) HK0.out 12 4 (by rw[HM.out];rfl)
      have RY5:=bk_sub (l:=[.int .i64 y.letter.idm,.int .i64 y.letter.ids,.string y.letter.meth,.slice B1 y.letter.args.length d1]) HJ0.out 12 4 (by rw[HL.out];rfl)
      have GX5:=lh RX5
      have GY5:=lh RY5
      clear RX5 RY5
      cases h5:decide (x.letter=y.letter) with
      | true =>
       have kc5:=SameLetter_any (x:=x.letter) (y:=y.letter) MX10.out MY10.out
       rw[h5] at kc5
       have H5:=lh h5
       clear h5
       go_wp2_with (first | (refine wpList_load_g rfl _ _ rfl g 12 rfl [.int .i64 x.letter.idm,.int .i64 x.letter.ids,.string x.letter.meth,.slice A1 x.letter.args.length c1] _ GX5.out rfl rfl rfl ?_) | (refine wpList_load_g rfl _ _ rfl (g+1) 12 rfl [.int .i64 y.letter.idm,.int .i64 y.letter.ids,.string y.letter.meth,.slice B1 y.letter.args.length d1] _ GY5.out rfl rfl rfl ?_) | fail)
       refine kc5.mono ?_
       rintro e w1 ⟨rfl,hb1⟩
       have HB1:=lh (HB0.out.trans (hb1.mono HB0.out.size))
       have hk1:=HK0.out.below hb1 HK0.out.lt
       have hj1:=HJ0.out.below hb1 HJ0.out.lt
       have MX21:Hid (LsI (flat rfC) 26 8 w1 A2 c2 x.parcel.fields):=lh (MX20.out.below (flat_ru _) (flat_rk _) hb1)
       have MY21:Hid (LsI (flat rfC) 26 8 w1 B2 d2 y.parcel.fields):=lh (MY20.out.below (flat_ru _) (flat_rk _) hb1)
       have MX31:Hid (LsI (LtR) 29 4 w1 A3 c3 x.parcel.mail):=lh (MX30.out.below (ltR_ru) (ltR_rk) hb1)
       have MY31:Hid (LsI (LtR) 29 4 w1 B3 d3 y.parcel.mail):=lh (MY30.out.below (ltR_ru) (ltR_rk) hb1)
       have MX41:Hid (LsI (flat waC) 65 12 w1 A4 c4 x.parcel.watches):=lh (MX40.out.below (flat_ru _) (flat_rk _) hb1)
       have MY41:Hid (LsI (flat waC) 65 12 w1 B4 d4 y.parcel.watches):=lh (MY40.out.below (flat_ru _) (flat_rk _) hb1)
       have MX51:Hid (LsI (flat inC) 99 3 w1 A5 c5 x.answer.inset):=lh (MX50.out.below (flat_ru _) (flat_rk _) hb1)
       have MY51:Hid (LsI (flat inC) 99 3 w1 B5 d5 y.answer.inset):=lh (MY50.out.below (flat_ru _) (flat_rk _) hb1)
       have MX61:Hid (LsI (flat ndC) 136 3 w1 A6 c6 x.claim.stubs):=lh (MX60.out.below (flat_ru _) (flat_rk _) hb1)
       have MY61:Hid (LsI (flat ndC) 136 3 w1 B6 d6 y.claim.stubs):=lh (MY60.out.below (flat_ru _) (flat_rk _) hb1)
       have MX71:Hid (LsI (flat ndC) 136 3 w1 A7 c7 x.claim.scions):=lh (MX70.out.below (flat_ru _) (flat_rk _) hb1)
       have MY71:Hid (LsI (flat ndC) 136 3 w1 B7 d7 y.claim.scions):=lh (MY70.out.below (flat_ru _) (flat_rk _) hb1)
       have MX81:Hid (LsI (flat ndC) 136 3 w1 A8 c8 x.claim.checks):=lh (MX80.out.below (flat_ru _) (flat_rk _) hb1)
       have MY81:Hid (LsI (flat ndC) 136 3 w1 B8 d8 y.claim.checks):=lh (MY80.out.below (flat_ru _) (flat_rk _) hb1)
       have HK1:=lh hk1
       have HJ1:=lh hj1
       clear hb1 hk1 hj1 kc5 xa0 ya0 xa1 ya1 xa2 ya2 xa3 ya3 xa4 ya4 xa5 ya5 xa6 ya6 xa7 ya7 xa8 ya8 xa9 ya9 xa10 ya10 xa11 ya11
       have RX6:=bk_sub (l:=[.int .u64 x.parcel.number,.int .i64 x.parcel.idm,.int .i64 x.parcel.ids,.int .i64 x.parcel.kind,.int .i64 x.parcel.cls,.slice A2 x.parcel.fields.length c2,.slice A3 x.parcel.mail.length c3,.slice A4 x.parcel.watches.length c4]) HK1.out 16 8 (by rw[HM.out];rfl)
       have RY6:=bk_sub (l:=[.int .u64 y.parcel.number,.int .i64 y.parcel.idm,.int .i64 y.parcel.ids,.int .i64 y.parcel.kind,.int .i64 y.parcel.cls,.slice B2 y.parcel.fields.length d2,.slice B3 y.parcel.mail.length d3,.slice B4 y.parcel.watches.length d4]) HJ1.out 16 8 (by rw[HL.out];rfl)
       have GX6:=lh RX6
       have GY6:=lh RY6
       clear RX6 RY6
       cases h6:decide (x.parcel=y.parcel) with
       | true =>
        have kc6:=SameParcel_any (x:=x.parcel) (y:=y.parcel) MX21.out MY21.out MX31.out MY31.out MX41.out MY41.out
        rw[h6] at kc6
        have H6:=lh h6
        clear h6
        go_wp2_with (first | (refine wpList_load_g rfl _ _ rfl g 16 rfl [.int .u64 x.parcel.number,.int .i64 x.parcel.idm,.int .i64 x.parcel.ids,.int .i64 x.parcel.kind,.int .i64 x.parcel.cls,.slice A2 x.parcel.fields.length c2,.slice A3 x.parcel.mail.length c3,.slice A4 x.parcel.watches.length c4] _ GX6.out rfl rfl rfl ?_) | (refine wpList_load_g rfl _ _ rfl (g+1) 16 rfl [.int .u64 y.parcel.number,.int .i64 y.parcel.idm,.int .i64 y.parcel.ids,.int .i64 y.parcel.kind,.int .i64 y.parcel.cls,.slice B2 y.parcel.fields.length d2,.slice B3 y.parcel.mail.length d3,.slice B4 y.parcel.watches.length d4] _ GY6.out rfl rfl rfl ?_) | fail)
        refine kc6.mono ?_
        rintro e w2 ⟨rfl,hb2⟩
        have HB2:=lh (HB1.out.trans (hb2.mono HB1.out.size))
        have hk2:=HK1.out.below hb2 HK1.out.lt
        have hj2:=HJ1.out.below hb2 HJ1.out.lt
        have MX52:Hid (LsI (flat inC) 99 3 w2 A5 c5 x.answer.inset):=lh (MX51.out.below (flat_ru _) (flat_rk _) hb2)
        have MY52:Hid (LsI (flat inC) 99 3 w2 B5 d5 y.answer.inset):=lh (MY51.out.below (flat_ru _) (flat_rk _) hb2)
        have MX62:Hid (LsI (flat ndC) 136 3 w2 A6 c6 x.claim.stubs):=lh (MX61.out.below (flat_ru _) (flat_rk _) hb2)
        have MY62:Hid (LsI (flat ndC) 136 3 w2 B6 d6 y.claim.stubs):=lh (MY61.out.below (flat_ru _) (flat_rk _) hb2)
        have MX72:Hid (LsI (flat ndC) 136 3 w2 A7 c7 x.claim.scions):=lh (MX71.out.below (flat_ru _) (flat_rk _) hb2)
        have MY72:Hid (LsI (flat ndC) 136 3 w2 B7 d7 y.claim.scions):=lh (MY71.out.below (flat_ru _) (flat_rk _) hb2)
        have MX82:Hid (LsI (flat ndC) 136 3 w2 A8 c8 x.claim.checks):=lh (MX81.out.below (flat_ru _) (flat_rk _) hb2)
        have MY82:Hid (LsI (flat ndC) 136 3 w2 B8 d8 y.claim.checks):=lh (MY81.out.below (flat_ru _) (flat_rk _) hb2)
        have xc24:w2.cell? ⟨g,24,none⟩=some (.int .i64 x.tm):=(hk2.cell 24).trans (by rw[HM.out];rfl)
        have xc25:w2.cell? ⟨g,25,none⟩=some (.int .i64 x.ts):=(hk2.cell 25).trans (by rw[HM.out];rfl)
        have yc24:w2.cell? ⟨g+1,24,none⟩=some (.int .i64 y.tm):=(hj2.cell 24).trans (by rw[HL.out];rfl)
        have yc25:w2.cell? ⟨g+1,25,none⟩=some (.int .i64 y.ts):=(hj2.cell 25).trans (by rw[HL.out];rfl)
        have HK2:=lh hk2
        have HJ2:=lh hj2
        clear hb2 hk2 hj2 kc6
        cases h7:decide (x.tm=y.tm∧x.ts=y.ts) with
        | true =>
         have q7:∀ W,(binOp .eql 34 (.agg #[.int .i64 x.tm,.int .i64 x.ts]) (.agg #[.int .i64 y.tm,.int .i64 y.ts])).run Tryz.prog W=.ok (.bool true) W:=fun W=>by rw[eql_tr,h7]
         have H7:=lh h7
         clear h7
         have RX8:=bk_sub (l:=[.int .i64 x.answer.machine,.int .i64 x.answer.owner,.int .u64 x.answer.number,.int .i64 x.answer.epoch,.bool x.answer.known,.bool x.answer.rooted,.int .i64 x.answer.last,.slice A5 x.answer.inset.length c5]) HK2.out 26 8 (by rw[HM.out];rfl)
         have RY8:=bk_sub (l:=[.int .i64 y.answer.machine,.int .i64 y.answer.owner,.int .u64 y.answer.number,.int .i64 y.answer.epoch,.bool y.answer.known,.bool y.answer.rooted,.int .i64 y.answer.last,.slice B5 y.answer.inset.length d5]) HJ2.out 26 8 (by rw[HL.out];rfl)
         have GX8:=lh RX8
         have GY8:=lh RY8
         clear RX8 RY8
         cases h8:decide (x.answer=y.answer) with
         | true =>
          have kc8:=SameAnswer_any (x:=x.answer) (y:=y.answer) MX52.out MY52.out
          rw[h8] at kc8
          have H8:=lh h8
          clear h8
          go_wp2_with (first | (refine wpList_load_g rfl _ _ rfl g 26 rfl [.int .i64 x.answer.machine,.int .i64 x.answer.owner,.int .u64 x.answer.number,.int .i64 x.answer.epoch,.bool x.answer.known,.bool x.answer.rooted,.int .i64 x.answer.last,.slice A5 x.answer.inset.length c5] _ GX8.out rfl rfl rfl ?_) | (refine wpList_load_g rfl _ _ rfl (g+1) 26 rfl [.int .i64 y.answer.machine,.int .i64 y.answer.owner,.int .u64 y.answer.number,.int .i64 y.answer.epoch,.bool y.answer.known,.bool y.answer.rooted,.int .i64 y.answer.last,.slice B5 y.answer.inset.length d5] _ GY8.out rfl rfl rfl ?_) | fail)
          refine kc8.mono ?_
          rintro e w3 ⟨rfl,hb3⟩
          have HB3:=lh (HB2.out.trans (hb3.mono HB2.out.size))
          have hk3:=HK2.out.below hb3 HK2.out.lt
          have hj3:=HJ2.out.below hb3 HJ2.out.lt
          have MX63:Hid (LsI (flat ndC) 136 3 w3 A6 c6 x.claim.stubs):=lh (MX62.out.below (flat_ru _) (flat_rk _) hb3)
          have MY63:Hid (LsI (flat ndC) 136 3 w3 B6 d6 y.claim.stubs):=lh (MY62.out.below (flat_ru _) (flat_rk _) hb3)
          have MX73:Hid (LsI (flat ndC) 136 3 w3 A7 c7 x.claim.scions):=lh (MX72.out.below (flat_ru _) (flat_rk _) hb3)
          have MY73:Hid (LsI (flat ndC) 136 3 w3 B7 d7 y.claim.scions):=lh (MY72.out.below (flat_ru _) (flat_rk _) hb3)
          have MX83:Hid (LsI (flat ndC) 136 3 w3 A8 c8 x.claim.checks):=lh (MX82.out.below (flat_ru _) (flat_rk _) hb3)
          have MY83:Hid (LsI (flat ndC) 136 3 w3 B8 d8 y.claim.checks):=lh (MY82.out.below (flat_ru _) (flat_rk _) hb3)
          have HK3:=lh hk3
          have HJ3:=lh hj3
          clear hb3 hk3 hj3 kc8 xc24 yc24 xc25 yc25
          have RX9:=bk_sub (l:=[.int .i64 x.claim.machine,.int .i64 x.claim.epoch,.slice A6 x.claim.stubs.length c6,.slice A7 x.claim.scions.length c7,.slice A8 x.claim.checks.length c8]) HK3.out 34 5 (by rw[HM.out];rfl)
          have RY9:=bk_sub (l:=[.int .i64 y.claim.machine,.int .i64 y.claim.epoch,.slice B6 y.claim.stubs.length d6,.slice B7 y.claim.scions.length d7,.slice B8 y.claim.checks.length d8]) HJ3.out 34 5 (by rw[HL.out];rfl)
          have GX9:=lh RX9
          have GY9:=lh RY9
          clear RX9 RY9
          cases h9:decide (x.claim=y.claim) with
          | true =>
           have kc9:=SameClaim_any (x:=x.claim) (y:=y.claim) MX63.out MY63.out MX73.out MY73.out MX83.out MY83.out
           rw[h9] at kc9
           have H9:=lh h9
           clear h9
           go_wp2_with (first | (refine wpList_load_g rfl _ _ rfl g 34 rfl [.int .i64 x.claim.machine,.int .i64 x.claim.epoch,.slice A6 x.claim.stubs.length c6,.slice A7 x.claim.scions.length c7,.slice A8 x.claim.checks.length c8] _ GX9.out rfl rfl rfl ?_) | (refine wpList_load_g rfl _ _ rfl (g+1) 34 rfl [.int .i64 y.claim.machine,.int .i64 y.claim.epoch,.slice B6 y.claim.stubs.length d6,.slice B7 y.claim.scions.length d7,.slice B8 y.claim.checks.length d8] _ GY9.out rfl rfl rfl ?_) | fail)
           refine kc9.mono ?_
           rintro e w4 ⟨rfl,hb4⟩
           have HB4:=lh (HB3.out.trans (hb4.mono HB3.out.size))
           clear hb4 kc9
           go_wp2_with fail
           go_ret
           refine⟨congrArg (fun b=>Ending.returned (Value.bool b)) ?_,HB4.out⟩
           rw[HR.out,ms_eq]
           simp[H0.out,H1.out,H2.out,H3.out,H4.out,H5.out,H6.out,H7.out,H8.out,H9.out]
          | false =>
           have kc9:=SameClaim_any (x:=x.claim) (y:=y.claim) MX63.out MY63.out MX73.out MY73.out MX83.out MY83.out
           rw[h9] at kc9
           have H9:=lh h9
           clear h9
           go_wp2_with (first | (refine wpList_load_g rfl _ _ rfl g 34 rfl [.int .i64 x.claim.machine,.int .i64 x.claim.epoch,.slice A6 x.claim.stubs.length c6,.slice A7 x.claim.scions.length c7,.slice A8 x.claim.checks.length c8] _ GX9.out rfl rfl rfl ?_) | (refine wpList_load_g rfl _ _ rfl (g+1) 34 rfl [.int .i64 y.claim.machine,.int .i64 y.claim.epoch,.slice B6 y.claim.stubs.length d6,.slice B7 y.claim.scions.length d7,.slice B8 y.claim.checks.length d8] _ GY9.out rfl rfl rfl ?_) | fail)
           refine kc9.mono ?_
           rintro e w4 ⟨rfl,hb4⟩
           have HB4:=lh (HB3.out.trans (hb4.mono HB3.out.size))
           clear hb4 kc9
           go_wp2_with fail
           go_ret
           refine⟨congrArg (fun b=>Ending.returned (Value.bool b)) ?_,HB4.out⟩
           rw[HR.out,ms_eq]
           simp[H0.out,H1.out,H2.out,H3.out,H4.out,H5.out,H6.out,H7.out,H8.out,H9.out]
         | false =>
          have kc8:=SameAnswer_any (x:=x.answer) (y:=y.answer) MX52.out MY52.out
          rw[h8] at kc8
          have H8:=lh h8
          clear h8
          go_wp2_with (first | (refine wpList_load_g rfl _ _ rfl g 26 rfl [.int .i64 x.answer.machine,.int .i64 x.answer.owner,.int .u64 x.answer.number,.int .i64 x.answer.epoch,.bool x.answer.known,.bool x.answer.rooted,.int .i64 x.answer.last,.slice A5 x.answer.inset.length c5] _ GX8.out rfl rfl rfl ?_) | (refine wpList_load_g rfl _ _ rfl (g+1) 26 rfl [.int .i64 y.answer.machine,.int .i64 y.answer.owner,.int .u64 y.answer.number,.int .i64 y.answer.epoch,.bool y.answer.known,.bool y.answer.rooted,.int .i64 y.answer.last,.slice B5 y.answer.inset.length d5] _ GY8.out rfl rfl rfl ?_) | fail)
          refine kc8.mono ?_
          rintro e w3 ⟨rfl,hb3⟩
          have HB3:=lh (HB2.out.trans (hb3.mono HB2.out.size))
          clear hb3 kc8 xc24 yc24 xc25 yc25
          go_wp2_with fail
          go_ret
          refine⟨congrArg (fun b=>Ending.returned (Value.bool b)) ?_,HB3.out⟩
          rw[HR.out,ms_eq]
          simp[H0.out,H1.out,H2.out,H3.out,H4.out,H5.out,H6.out,H7.out,H8.out]
        | false =>
         have q7:∀ W,(binOp .eql 34 (.agg #[.int .i64 x.tm,.int .i64 x.ts]) (.agg #[.int .i64 y.tm,.int .i64 y.ts])).run Tryz.prog W=.ok (.bool false) W:=fun W=>by rw[eql_tr,h7]
         have H7:=lh h7
         clear h7
         go_wp2_with fail
         go_ret
         refine⟨congrArg (fun b=>Ending.returned (Value.bool b)) ?_,HB2.out⟩
         rw[HR.out,ms_eq]
         simp[H0.out,H1.out,H2.out,H3.out,H4.out,H5.out,H6.out,H7.out]
       | false =>
        have kc6:=SameParcel_any (x:=x.parcel) (y:=y.parcel) MX21.out MY21.out MX31.out MY31.out MX41.out MY41.out
        rw[h6] at kc6
        have H6:=lh h6
        clear h6
        go_wp2_with (first | (refine wpList_load_g rfl _ _ rfl g 16 rfl [.int .u64 x.parcel.number,.int .i64 x.parcel.idm,.int .i64 x.parcel.ids,.int .i64 x.parcel.kind,.int .i64 x.parcel.cls,.slice A2 x.parcel.fields.length c2,.slice A3 x.parcel.mail.length c3,.slice A4 x.parcel.watches.length c4] _ GX6.out rfl rfl rfl ?_) | (refine wpList_load_g rfl _ _ rfl (g+1) 16 rfl [.int .u64 y.parcel.number,.int .i64 y.parcel.idm,.int .i64 y.parcel.ids,.int .i64 y.parcel.kind,.int .i64 y.parcel.cls,.slice B2 y.parcel.fields.length d2,.slice B3 y.parcel.mail.length d3,.slice B4 y.parcel.watches.length d4] _ GY6.out rfl rfl rfl ?_) | fail)
        refine kc6.mono ?_
        rintro e w2 ⟨rfl,hb2⟩
        have HB2:=lh (HB1.out.trans (hb2.mono HB1.out.size))
        clear hb2 kc6
        go_wp2_with fail
        go_ret
        refine⟨congrArg (fun b=>Ending.returned (Value.bool b)) ?_,HB2.out⟩
        rw[HR.out,ms_eq]
        simp[H0.out,H1.out,H2.out,H3.out,H4.out,H5.out,H6.out]
      | false =>
       have kc5:=SameLetter_any (x:=x.letter) (y:=y.letter) MX10.out MY10.out
       rw[h5] at kc5
       have H5:=lh h5
       clear h5
       go_wp2_with (first | (refine wpList_load_g rfl _ _ rfl g 12 rfl [.int .i64 x.letter.idm,.int .i64 x.letter.ids,.string x.letter.meth,.slice A1 x.letter.args.length c1] _ GX5.out rfl rfl rfl ?_) | (refine wpList_load_g rfl _ _ rfl (g+1) 12 rfl [.int .i64 y.letter.idm,.int .i64 y.letter.ids,.string y.letter.meth,.slice B1 y.letter.args.length d1] _ GY5.out rfl rfl rfl ?_) | fail)
       refine kc5.mono ?_
       rintro e w1 ⟨rfl,hb1⟩
       have HB1:=lh (HB0.out.trans (hb1.mono HB0.out.size))
       clear hb1 kc5 xa0 ya0 xa1 ya1 xa2 ya2 xa3 ya3 xa4 ya4 xa5 ya5 xa6 ya6 xa7 ya7 xa8 ya8 xa9 ya9 xa10 ya10 xa11 ya11
       go_wp2_with fail
       go_ret
       refine⟨congrArg (fun b=>Ending.returned (Value.bool b)) ?_,HB1.out⟩
       rw[HR.out,ms_eq]
       simp[H0.out,H1.out,H2.out,H3.out,H4.out,H5.out]
     | false =>
      have q4:∀ W,(binOp .eql 26 (.agg #[.int .i64 x.ref.kind,.int .i64 x.ref.int,.int .i64 x.ref.owner,.int .u64 x.ref.number,.int .i64 x.ref.idm,.int .i64 x.ref.ids,.int .i64 x.ref.cls,.bool x.ref.weak]) (.agg #[.int .i64 y.ref.kind,.int .i64 y.ref.int,.int .i64 y.ref.owner,.int .u64 y.ref.number,.int .i64 y.ref.idm,.int .i64 y.ref.ids,.int .i64 y.ref.cls,.bool y.ref.weak])).run Tryz.prog W=.ok (.bool false) W:=fun W=>by rw[eql_rfs,h4]
      have H4:=lh h4
      clear h4
      go_wp2_with fail
      go_ret
      refine⟨congrArg (fun b=>Ending.returned (Value.bool b)) ?_,HB0.out⟩
      rw[HR.out,ms_eq]
      simp[H0.out,H1.out,H2.out,H3.out,H4.out]
    | false =>
     have q3:(x.name.toList == y.name.toList)=false:=by rw[bytes_eq];exact h3
     have H3:=lh h3
     clear h3
     go_wp2_with fail
     go_ret
     refine⟨congrArg (fun b=>Ending.returned (Value.bool b)) ?_,HB0.out⟩
     rw[HR.out,ms_eq]
     simp[H0.out,H1.out,H2.out,H3.out]
   | false =>
    have q2:(x.asker == y.asker)=false:=h2
    have H2:=lh h2
    clear h2
    go_wp2_with fail
    go_ret
    refine⟨congrArg (fun b=>Ending.returned (Value.bool b)) ?_,HB0.out⟩
    rw[HR.out,ms_eq]
    simp[H0.out,H1.out,H2.out]
  | false =>
   have q1:(x.number == y.number)=false:=h1
   have H1:=lh h1
   clear h1
   go_wp2_with fail
   go_ret
   refine⟨congrArg (fun b=>Ending.returned (Value.bool b)) ?_,HB0.out⟩
   rw[HR.out,ms_eq]
   simp[H0.out,H1.out]
 | false =>
  have q0:(x.kind == y.kind)=false:=h0
  have H0:=lh h0
  clear h0
  go_wp2_with fail
  go_ret
  refine⟨congrArg (fun b=>Ending.returned (Value.bool b)) ?_,HB0.out⟩
  rw[HR.out,ms_eq]
  simp[H0.out]
end
section
open Go.RowKit Go.Sort
attribute [local go_sem] Oper.semAt_some
def fewLt (p:Lt):Bool:=decide (p.args.length≤20) && decide (p.meth.size≤100)
def fewWa (p:Wa):Bool:=decide (p.meth.size≤100)
def fewV (x:Ms):Bool:=decide (x.name.size≤100) && decide (x.letter.meth.size≤100) && decide (x.letter.args.length≤20) && decide (x.parcel.fields.length≤40) && decide (x.parcel.mail.length≤20) && decide (x.parcel.watches.length≤20) && decide (x.answer.inset.length≤40) && decide (x.claim.stubs.length+x.claim.scions.length+x.claim.checks.length≤60) && x.parcel.mail.all fewLt && x.parcel.watches.all fewWa
theorem gt_dec {n k:Nat} {b:Bool} (h:decide (n≤k)=b):decide ((k:Int) < (n:Int))=!b:=by
 subst h
 by_cases h:n≤k
 ·rw[decide_eq_true h,decide_eq_false (by omega)];rfl
 ·rw[decide_eq_false h,decide_eq_true (by omega)];rfl
theorem gt_dec3 {a b c k:Nat} {q:Bool} (h:decide (a+b+c≤k)=q):decide ((k:Int) < (a:Int)+(b:Int)+(c:Int))=!q:=by
 subst h
 by_cases h:a+b+c≤k
 ·rw[decide_eq_true h,decide_eq_false (by omega)];rfl
 ·rw[decide_eq_false h,decide_eq_true (by omega)];rfl
set_option maxHeartbeats 8000000 in
theorem Few_any {w:World} {x:Ms} {r:List Value} (h:MsI w x r):Calls Tryz.prog 11 #[.agg r.toArray] w (YesP w (fewV x)):=by
 obtain⟨A1,c1,A2,c2,A3,c3,A4,c4,A5,c5,A6,c6,A7,c7,A8,c8,hr,hx1,hx2,hx3,hx4,hx5,hx6,hx7,hx8⟩:=h
 obtain⟨M,hM⟩:∃ M,M=r.toArray:=⟨_,rfl⟩
 rw[← hM]
 rw[hr] at hM
 clear hr
 have HM:=lh hM
 obtain⟨R,hR⟩:∃ R,R=fewV x:=⟨_,rfl⟩
 rw[← hR]
 have HR:=lh hR
 obtain⟨W,hW⟩:∃ W,W=w.alloc (.cells M 42):=⟨_,rfl⟩
 obtain⟨g,hg⟩:∃ g,g=w.heap.size:=⟨_,rfl⟩
 obtain⟨W3,hW3⟩:∃ W3,W3=W.alloc (.cells #[.int .u64 x.parcel.number,.int .i64 x.parcel.idm,.int .i64 x.parcel.ids,.int .i64 x.parcel.kind,.int .i64 x.parcel.cls,.slice A2 x.parcel.fields.length c2,.slice A3 x.parcel.mail.length c3,.slice A4 x.parcel.watches.length c4] 33):=⟨_,rfl⟩
 have hb0:Below w.heap.size w W:=by rw[hW];exact below_one _ _
 have hk0:Bk W g 42 M:=by rw[hW,hg];exact Bk.new _ _ _
 have hz:W.heap.size=g+1:=by rw[hW,hg];simp
 have hb1:Below W.heap.size W W3:=by rw[hW3];exact below_one _ _
 have hj0:Bk W3 (g+1) 33 #[.int .u64 x.parcel.number,.int .i64 x.parcel.idm,.int .i64 x.parcel.ids,.int .i64 x.parcel.kind,.int .i64 x.parcel.cls,.slice A2 x.parcel.fields.length c2,.slice A3 x.parcel.mail.length c3,.slice A4 x.parcel.watches.length c4]:=by rw[hW3,← hz];exact Bk.new _ _ _
 have hk1:=hk0.below hb1 hk0.lt
 have HB3:=lh (hb0.trans (hb1.mono hb0.size))
 have HK3:=lh hk1
 have HJ3:=lh hj0
 have MX3:Hid (LsI (LtR) 29 4 W3 A3 c3 x.parcel.mail):=lh ((show LsI (LtR) 29 4 w A3 c3 x.parcel.mail from hx3).below (ltR_ru) (ltR_rk) HB3.out)
 have MX4:Hid (LsI (flat waC) 65 12 W3 A4 c4 x.parcel.watches):=lh ((show LsI (flat waC) 65 12 w A4 c4 x.parcel.watches from hx4).below (flat_ru _) (flat_rk _) HB3.out)
 have l6:=LsI.le (show LsI (flat ndC) 136 3 w A6 c6 x.claim.stubs from hx6)
 have l6b:=l6.2
 have l7:=LsI.le (show LsI (flat ndC) 136 3 w A7 c7 x.claim.scions from hx7)
 have l7b:=l7.2
 have l8:=LsI.le (show LsI (flat ndC) 136 3 w A8 c8 x.claim.checks from hx8)
 have l8b:=l8.2
 have l3:=LsI.le (show LsI (LtR) 29 4 w A3 c3 x.parcel.mail from hx3)
 have l3a:=l3.1
 have l3b:=l3.2
 have l4:=LsI.le (show LsI (flat waC) 65 12 w A4 c4 x.parcel.watches from hx4)
 have l4a:=l4.1
 have l4b:=l4.2
 have b16:W.cell? ⟨g,16,none⟩=some (.int .u64 x.parcel.number):=(hk0.cell 16).trans (by rw[HM.out];rfl)
 have b17:W.cell? ⟨g,17,none⟩=some (.int .i64 x.parcel.idm):=(hk0.cell 17).trans (by rw[HM.out];rfl)
 have b18:W.cell? ⟨g,18,none⟩=some (.int .i64 x.parcel.ids):=(hk0.cell 18).trans (by rw[HM.out];rfl)
 have b19:W.cell? ⟨g,19,none⟩=some (.int .i64 x.parcel.kind):=(hk0.cell 19).trans (by rw[HM.out];rfl)
 have b20:W.cell? ⟨g,20,none⟩=some (.int .i64 x.parcel.cls):=(hk0.cell 20).trans (by rw[HM.out];rfl)
 have b21:W.cell? ⟨g,21,none⟩=some (.slice A2 x.parcel.fields.length c2):=(hk0.cell 21).trans (by rw[HM.out];rfl)
 have b22:W.cell? ⟨g,22,none⟩=some (.slice A3 x.parcel.mail.length c3):=(hk0.cell 22).trans (by rw[HM.out];rfl)
 have b23:W.cell? ⟨g,23,none⟩=some (.slice A4 x.parcel.watches.length c4):=(hk0.cell 23).trans (by rw[HM.out];rfl)
 clear l3 l4 l6 l7 l8 hb0 hk0 hb1 hj0 hk1 hx1 hx2 hx3 hx4 hx5 hx6 hx7 hx8 hM hR
 go_enter Tryz.func11,Tryz.ntmps11
 go_upto_region 1 with fail
 rw[← hW,← hg]
 clear hW hg
 have HZ:=lh hz
 have HW3:=lh hW3
 clear hz hW3
 go_upto_region 2 with fail
 rw[HZ.out,← HW3.out]
 clear HZ HW3 b16 b17 b18 b19 b20 b21 b22 b23
 have a3:W3.cell? ⟨g,3,none⟩=some (.string x.name):=(HK3.out.cell 3).trans (by rw[HM.out];rfl)
 have a14:W3.cell? ⟨g,14,none⟩=some (.string x.letter.meth):=(HK3.out.cell 14).trans (by rw[HM.out];rfl)
 have a15:W3.cell? ⟨g,15,none⟩=some (.slice A1 x.letter.args.length c1):=(HK3.out.cell 15).trans (by rw[HM.out];rfl)
 have a33:W3.cell? ⟨g,33,none⟩=some (.slice A5 x.answer.inset.length c5):=(HK3.out.cell 33).trans (by rw[HM.out];rfl)
 have a36:W3.cell? ⟨g,36,none⟩=some (.slice A6 x.claim.stubs.length c6):=(HK3.out.cell 36).trans (by rw[HM.out];rfl)
 have a37:W3.cell? ⟨g,37,none⟩=some (.slice A7 x.claim.scions.length c7):=(HK3.out.cell 37).trans (by rw[HM.out];rfl)
 have a38:W3.cell? ⟨g,38,none⟩=some (.slice A8 x.claim.checks.length c8):=(HK3.out.cell 38).trans (by rw[HM.out];rfl)
 have p0:W3.cell? ⟨g+1,0,none⟩=some (.int .u64 x.parcel.number):=HJ3.out.cell 0
 have p1:W3.cell? ⟨g+1,1,none⟩=some (.int .i64 x.parcel.idm):=HJ3.out.cell 1
 have p2:W3.cell? ⟨g+1,2,none⟩=some (.int .i64 x.parcel.ids):=HJ3.out.cell 2
 have p3:W3.cell? ⟨g+1,3,none⟩=some (.int .i64 x.parcel.kind):=HJ3.out.cell 3
 have p4:W3.cell? ⟨g+1,4,none⟩=some (.int .i64 x.parcel.cls):=HJ3.out.cell 4
 have p5:W3.cell? ⟨g+1,5,none⟩=some (.slice A2 x.parcel.fields.length c2):=HJ3.out.cell 5
 have p6:W3.cell? ⟨g+1,6,none⟩=some (.slice A3 x.parcel.mail.length c3):=HJ3.out.cell 6
 have p7:W3.cell? ⟨g+1,7,none⟩=some (.slice A4 x.parcel.watches.length c4):=HJ3.out.cell 7
 cases h0:decide (x.name.size≤100) with
 | true =>
  have q0:decide ((100:Int) < (x.name.size:Int))=false:=gt_dec (k:=100) h0
  have H0:=lh h0
  clear h0
  cases h1:decide (x.letter.meth.size≤100) with
  | true =>
   have q1:decide ((100:Int) < (x.letter.meth.size:Int))=false:=gt_dec (k:=100) h1
   have H1:=lh h1
   clear h1
   cases h2:decide (x.letter.args.length≤20) with
   | true =>
    have q2:decide ((20:Int) < (x.letter.args.length:Int))=false:=gt_dec (k:=20) h2
    have H2:=lh h2
    clear h2
    cases h3:decide (x.parcel.fields.length≤40) with
    | true =>
     have q3:decide ((40:Int) < (x.parcel.fields.length:Int))=false:=gt_dec (k:=40) h3
     have H3:=lh h3
     clear h3
     cases h4:decide (x.parcel.mail.length≤20) with
     | true =>
      have q4:decide ((20:Int) < (x.parcel.mail.length:Int))=false:=gt_dec (k:=20) h4
      have H4:=lh h4
      clear h4
      cases h5:decide (x.parcel.watches.length≤20) with
      | true =>
       have q5:decide ((20:Int) < (x.parcel.watches.length:Int))=false:=gt_dec (k:=20) h5
       have H5:=lh h5
       clear h5
       cases h6:decide (x.answer.inset.length≤40) with
       | true =>
        have q6:decide ((40:Int) < (x.answer.inset.length:Int))=false:=gt_dec (k:=40) h6
        have H6:=lh h6
        clear h6
        cases h7:decide (x.claim.stubs.length+x.claim.scions.length+x.claim.checks.length≤60) with
        | true =>
         have q7:decide ((60:Int) < (x.claim.stubs.length:Int)+(x.claim.scions.length:Int)+(x.claim.checks.length:Int))=false:=gt_dec3 (k:=60) h7
         have H7:=lh h7
         clear h7
         go_wp2_with fail
         clear a3 a14 a15 a33 a36 a37 a38 p0 p1 p2 p3 p4 p5 p6 p7
         go_loopw [4] (fun ix wr=>∃ j:Nat,ix=.int .i64 (j:Int)∧j≤x.parcel.mail.length∧(x.parcel.mail.take j).all fewLt=true∧Below W3.heap.size W3 wr) (fun ix _=>x.parcel.mail.length - (intOf ix).toNat)
         case atStart=>exact⟨0,rfl,Nat.zero_le _,rfl,Below.refl _ _⟩
         case round =>
          obtain⟨j,rfl,hj,ht,hbl⟩:=hrel
          have HT:=lh (And.intro ht hbl)
          have zx:=(HJ3.out.below hbl HJ3.out.lt).cell 6
          simp only[List.getElem?_toArray,List.getElem?_cons_zero,List.getElem?_cons_succ] at zx
          clear ht hbl
          by_cases hlt:j < x.parcel.mail.length
          ·obtain⟨p,hp⟩:∃ p,x.parcel.mail[j]?=some p:=⟨_,List.getElem?_eq_getElem hlt⟩
           obtain⟨ba,oa,ra,hA,_,hra,hca⟩:=MX3.out.get hp
           subst hA
           have HP:=lh hp
           obtain⟨Ap,cp,hra,_⟩:=hra
           have e2:wr.cell? ⟨ba,oa+j*4+2,none⟩=some (.string p.meth):=(bcell HT.out.2).1 _ _ (cell_lt (hca 2 _ (by rw[hra];rfl))) |>.trans (hca 2 _ (by rw[hra];rfl))
           have e3:wr.cell? ⟨ba,oa+j*4+3,none⟩=some (.slice Ap p.args.length cp):=(bcell HT.out.2).1 _ _ (cell_lt (hca 3 _ (by rw[hra];rfl))) |>.trans (hca 3 _ (by rw[hra];rfl))
           have hjc:j < c3:=by omega
           clear hp hca hra
           cases k0:decide (p.args.length≤20) with
           | true =>
            have s0:decide ((20:Int) < (p.args.length:Int))=false:=gt_dec (k:=20) k0
            have K0:=lh k0
            clear k0
            cases k1:decide (p.meth.size≤100) with
            | true =>
             have s1:decide ((100:Int) < (p.meth.size:Int))=false:=gt_dec (k:=100) k1
             have K1:=lh k1
             clear k1
             have HQ:Hid (fewLt p=true):=lh (by unfold fewLt;simp[K0.out,K1.out])
             go_wp2_with fail
             go_roundw
             case rel=>exact⟨j+1,by go_num,hlt,by rw[List.take_add_one,HP.out,List.all_append,HT.out.1];simp[HQ.out],HT.out.2⟩
             case measure=>simp[intOf];omega
            | false =>
             have s1:decide ((100:Int) < (p.meth.size:Int))=true:=gt_dec (k:=100) k1
             have K1:=lh k1
             clear k1
             have HQ:Hid (x.parcel.mail.all fewLt=false):=lh (by rw[List.all_eq_false];exact⟨p,List.mem_of_getElem? HP.out,by unfold fewLt;simp[K1.out]⟩)
             go_wp2_with fail
             go_ret
             refine⟨congrArg (fun b=>Ending.returned (Value.bool b)) ?_,HB3.out.trans (HT.out.2.mono HB3.out.size)⟩
             rw[HR.out]
             unfold fewV
             simp[HQ.out]
           | false =>
            have s0:decide ((20:Int) < (p.args.length:Int))=true:=gt_dec (k:=20) k0
            have K0:=lh k0
            clear k0
            have HQ:Hid (x.parcel.mail.all fewLt=false):=lh (by rw[List.all_eq_false];exact⟨p,List.mem_of_getElem? HP.out,by unfold fewLt;simp[K0.out]⟩)
            go_wp2_with fail
            go_ret
            refine⟨congrArg (fun b=>Ending.returned (Value.bool b)) ?_,HB3.out.trans (HT.out.2.mono HB3.out.size)⟩
            rw[HR.out]
            unfold fewV
            simp[HQ.out]
          ·obtain rfl:j=x.parcel.mail.length:=by omega
           have HE3:Hid (x.parcel.mail.all fewLt=true):=lh (by have:=HT.out.1;rw[List.take_length] at this;exact this)
           clear hlt hj
           obtain⟨wm,rfl⟩:∃ wm:World,wm=wr:=⟨_,rfl⟩
           have HBm:=lh (HB3.out.trans (HT.out.2.mono HB3.out.size))
           have HJm:=lh (HJ3.out.below HT.out.2 HJ3.out.lt)
           have MX4m:Hid (LsI (flat waC) 65 12 wm A4 c4 x.parcel.watches):=lh (MX4.out.below (flat_ru _) (flat_rk _) HT.out.2)
           have vx:=HJm.out.cell 7
           simp only[List.getElem?_toArray,List.getElem?_cons_zero,List.getElem?_cons_succ] at vx
           go_wp2_with fail
           clear vx zx
           go_loopw [5] (fun ix wr=>∃ j:Nat,ix=.int .i64 (j:Int)∧j≤x.parcel.watches.length∧(x.parcel.watches.take j).all fewWa=true∧Below wm.heap.size wm wr) (fun ix _=>x.parcel.watches.length - (intOf ix).toNat)
           case atStart=>exact⟨0,rfl,Nat.zero_le _,rfl,Below.refl _ _⟩
           case round =>
            obtain⟨j,rfl,hj,ht,hbl⟩:=hrel
            have HT:=lh (And.intro ht hbl)
            have zx:=(HJm.out.below hbl HJm.out.lt).cell 7
            simp only[List.getElem?_toArray,List.getElem?_cons_zero,List.getElem?_cons_succ] at zx
            clear ht hbl
            by_cases hlt:j < x.parcel.watches.length
            ·obtain⟨p,hp⟩:∃ p,x.parcel.watches[j]?=some p:=⟨_,List.getElem?_eq_getElem hlt⟩
             obtain⟨ba,oa,ra,hA,_,hra,hca⟩:=MX4m.out.get hp
             subst hA
             have HP:=lh hp
             have e2:wr.cell? ⟨ba,oa+j*12+2,none⟩=some (.string p.meth):=(bcell HT.out.2).1 _ _ (cell_lt (hca 2 _ (by rw[hra];rfl))) |>.trans (hca 2 _ (by rw[hra];rfl))
             have hjc:j < c4:=by omega
             clear hp hca hra
             cases k0:decide (p.meth.size≤100) with
             | true =>
              have s0:decide ((100:Int) < (p.meth.size:Int))=false:=gt_dec (k:=100) k0
              have K0:=lh k0
              clear k0
              have HQ:Hid (fewWa p=true):=lh (by unfold fewWa;simp[K0.out])
              go_wp2_with fail
              go_roundw
              case rel=>exact⟨j+1,by go_num,hlt,by rw[List.take_add_one,HP.out,List.all_append,HT.out.1];simp[HQ.out],HT.out.2⟩
              case measure=>simp[intOf];omega
             | false =>
              have s0:decide ((100:Int) < (p.meth.size:Int))=true:=gt_dec (k:=100) k0
              have K0:=lh k0
              clear k0
              have HQ:Hid (x.parcel.watches.all fewWa=false):=lh (by rw[List.all_eq_false];exact⟨p,List.mem_of_getElem? HP.out,by unfold fewWa;simp[K0.out]⟩)
              go_wp2_with fail
              go_ret
              refine⟨congrArg (fun b=>Ending.returned (Value.bool b)) ?_,HBm.out.trans (HT.out.2.mono HBm.out.size)⟩
              rw[HR.out]
              unfold fewV
              simp[HQ.out]
            ·obtain rfl:j=x.parcel.watches.length:=by omega
             have HE4:Hid (x.parcel.watches.all fewWa=true):=lh (by have:=HT.out.1;rw[List.take_length] at this;exact this)
             clear hlt hj
             go_wp2_with fail
             go_ret
             refine⟨congrArg (fun b=>Ending.returned (Value.bool b)) ?_,HBm.out.trans (HT.out.2.mono HBm.out.size)⟩
             rw[HR.out]
             unfold fewV
             simp[H0.out,H1.out,H2.out,H3.out,H4.out,H5.out,H6.out,H7.out,HE3.out,HE4.out]
        | false =>
         have q7:decide ((60:Int) < (x.claim.stubs.length:Int)+(x.claim.scions.length:Int)+(x.claim.checks.length:Int))=true:=gt_dec3 (k:=60) h7
         have H7:=lh h7
         clear h7
         go_wp2_with fail
         go_ret
         refine⟨congrArg (fun b=>Ending.returned (Value.bool b)) ?_,HB3.out⟩
         rw[HR.out]
         unfold fewV
         simp[H0.out,H1.out,H2.out,H3.out,H4.out,H5.out,H6.out,H7.out]
       | false =>
        have q6:decide ((40:Int) < (x.answer.inset.length:Int))=true:=gt_dec (k:=40) h6
        have H6:=lh h6
        clear h6
        go_wp2_with fail
        go_ret
        refine⟨congrArg (fun b=>Ending.returned (Value.bool b)) ?_,HB3.out⟩
        rw[HR.out]
        unfold fewV
        simp[H0.out,H1.out,H2.out,H3.out,H4.out,H5.out,H6.out]
      | false =>
       have q5:decide ((20:Int) < (x.parcel.watches.length:Int))=true:=gt_dec (k:=20) h5
       have H5:=lh h5
       clear h5
       go_wp2_with fail
       go_ret
       refine⟨congrArg (fun b=>Ending.returned (Value.bool b)) ?_,HB3.out⟩
       rw[HR.out]
       unfold fewV
       simp[H0.out,H1.out,H2.out,H3.out,H4.out,H5.out]
     | false =>
      have q4:decide ((20:Int) < (x.parcel.mail.length:Int))=true:=gt_dec (k:=20) h4
      have H4:=lh h4
      clear h4
      go_wp2_with fail
      go_ret
      refine⟨congrArg (fun b=>Ending.returned (Value.bool b)) ?_,HB3.out⟩
      rw[HR.out]
      unfold fewV
      simp[H0.out,H1.out,H2.out,H3.out,H4.out]
    | false =>
     have q3:decide ((40:Int) < (x.parcel.fields.length:Int))=true:=gt_dec (k:=40) h3
     have H3:=lh h3
     clear h3
     go_wp2_with fail
     go_ret
     refine⟨congrArg (fun b=>Ending.returned (Value.bool b)) ?_,HB3.out⟩
     rw[HR.out]
     unfold fewV
     simp[H0.out,H1.out,H2.out,H3.out]
   | false =>
    have q2:decide ((20:Int) < (x.letter.args.length:Int))=true:=gt_dec (k:=20) h2
    have H2:=lh h2
    clear h2
    go_wp2_with fail
    go_ret
    refine⟨congrArg (fun b=>Ending.returned (Value.bool b)) ?_,HB3.out⟩
    rw[HR.out]
    unfold fewV
    simp[H0.out,H1.out,H2.out]
  | false =>
   have q1:decide ((100:Int) < (x.letter.meth.size:Int))=true:=gt_dec (k:=100) h1
   have H1:=lh h1
   clear h1
   go_wp2_with fail
   go_ret
   refine⟨congrArg (fun b=>Ending.returned (Value.bool b)) ?_,HB3.out⟩
   rw[HR.out]
   unfold fewV
   simp[H0.out,H1.out]
 | false =>
  have q0:decide ((100:Int) < (x.name.size:Int))=true:=gt_dec (k:=100) h0
  have H0:=lh h0
  clear h0
  go_wp2_with fail
  go_ret
  refine⟨congrArg (fun b=>Ending.returned (Value.bool b)) ?_,HB3.out⟩
  rw[HR.out]
  unfold fewV
  simp[H0.out]
end
end Go.Proofs.YtmbnlccafcfbeaaGreatDoor
