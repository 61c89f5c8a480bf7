/- Parts of the proof: RsD. -/
import Derived.Lib.QuietBelow
import Derived.Test.YtmbnlccafcfbeaaGreatDoorPdA
import Derived.Test.YtmbnlccafcfbeaaGreatDoorPd28
set_option linter.unusedVariables false
set_option linter.unusedSimpArgs false
set_option linter.unusedSectionVars false
set_option maxRecDepth 100000
namespace Go.Proofs.YtmbnlccafcfbeaaGreatDoor
section
open Go.RowKit Go.Sort
attribute [local go_sem] Oper.semAt_some
set_option maxHeartbeats 8000000 in
theorem SameParcel_any {w:World} {x y:Pc} {A2 B2:Option Addr} {c2 d2:Nat} {A3 B3:Option Addr} {c3 d3:Nat} {A4 B4:Option Addr} {c4 d4:Nat} (hx2:LsI (flat rfC) 26 8 w A2 c2 x.fields) (hy2:LsI (flat rfC) 26 8 w B2 d2 y.fields) (hx3:LsI (LtR) 29 4 w A3 c3 x.mail) (hy3:LsI (LtR) 29 4 w B3 d3 y.mail) (hx4:LsI (flat waC) 65 12 w A4 c4 x.watches) (hy4:LsI (flat waC) 65 12 w B4 d4 y.watches):Calls Tryz.prog 30 #[.agg #[.int .u64 x.number,.int .i64 x.idm,.int .i64 x.ids,.int .i64 x.kind,.int .i64 x.cls,.slice A2 x.fields.length c2,.slice A3 x.mail.length c3,.slice A4 x.watches.length c4],.agg #[.int .u64 y.number,.int .i64 y.idm,.int .i64 y.ids,.int .i64 y.kind,.int .i64 y.cls,.slice B2 y.fields.length d2,.slice B3 y.mail.length d3,.slice B4 y.watches.length d4]] w (YesP w (decide (x=y))):=by
 obtain⟨R,hR⟩:∃ R,R=decide (x=y):=⟨_,rfl⟩
 rw[← hR]
 have HR:=lh hR
 obtain⟨W,hW⟩:∃ W,W=(w.alloc (.cells #[.int .u64 x.number,.int .i64 x.idm,.int .i64 x.ids,.int .i64 x.kind,.int .i64 x.cls,.slice A2 x.fields.length c2,.slice A3 x.mail.length c3,.slice A4 x.watches.length c4] 33)).alloc (.cells #[.int .u64 y.number,.int .i64 y.idm,.int .i64 y.ids,.int .i64 y.kind,.int .i64 y.cls,.slice B2 y.fields.length d2,.slice B3 y.mail.length d3,.slice B4 y.watches.length d4] 33):=⟨_,rfl⟩
 obtain⟨g,hg⟩:∃ g,g=w.heap.size:=⟨_,rfl⟩
 have hb0:Below w.heap.size w W:=by rw[hW];exact((Below.refl _ _).alloc (Nat.le_refl _) _).alloc (by simp) _
 have hk0:Bk W g 33 #[.int .u64 x.number,.int .i64 x.idm,.int .i64 x.ids,.int .i64 x.kind,.int .i64 x.cls,.slice A2 x.fields.length c2,.slice A3 x.mail.length c3,.slice A4 x.watches.length c4]:=by rw[hW,hg];exact(Bk.new _ _ _).alloc _
 have hj0:Bk W (g+1) 33 #[.int .u64 y.number,.int .i64 y.idm,.int .i64 y.ids,.int .i64 y.kind,.int .i64 y.cls,.slice B2 y.fields.length d2,.slice B3 y.mail.length d3,.slice B4 y.watches.length d4]:=by rw[hW,hg];have:=Bk.new (w.alloc (.cells #[.int .u64 x.number,.int .i64 x.idm,.int .i64 x.ids,.int .i64 x.kind,.int .i64 x.cls,.slice A2 x.fields.length c2,.slice A3 x.mail.length c3,.slice A4 x.watches.length c4] 33)) 33 #[.int .u64 y.number,.int .i64 y.idm,.int .i64 y.ids,.int .i64 y.kind,.int .i64 y.cls,.slice B2 y.fields.length d2,.slice B3 y.mail.length d3,.slice B4 y.watches.length d4];simpa using this
 have MX20:Hid (LsI (flat rfC) 26 8 W A2 c2 x.fields):=lh (hx2.below (flat_ru _) (flat_rk _) hb0)
 have MY20:Hid (LsI (flat rfC) 26 8 W B2 d2 y.fields):=lh (hy2.below (flat_ru _) (flat_rk _) hb0)
 have MX30:Hid (LsI (LtR) 29 4 W A3 c3 x.mail):=lh (hx3.below (ltR_ru) (ltR_rk) hb0)
 have MY30:Hid (LsI (LtR) 29 4 W B3 d3 y.mail):=lh (hy3.below (ltR_ru) (ltR_rk) hb0)
 have MX40:Hid (LsI (flat waC) 65 12 W A4 c4 x.watches):=lh (hx4.below (flat_ru _) (flat_rk _) hb0)
 have MY40:Hid (LsI (flat waC) 65 12 W B4 d4 y.watches):=lh (hy4.below (flat_ru _) (flat_rk _) hb0)
 have xa0:W.cell? ⟨g,0,none⟩=some (.int .u64 x.number):=hk0.cell 0
 have xa1:W.cell? ⟨g,1,none⟩=some (.int .i64 x.idm):=hk0.cell 1
 have xa2:W.cell? ⟨g,2,none⟩=some (.int .i64 x.ids):=hk0.cell 2
 have xa3:W.cell? ⟨g,3,none⟩=some (.int .i64 x.kind):=hk0.cell 3
 have xa4:W.cell? ⟨g,4,none⟩=some (.int .i64 x.cls):=hk0.cell 4
 have xa5:W.cell? ⟨g,5,none⟩=some (.slice A2 x.fields.length c2):=hk0.cell 5
 have xa6:W.cell? ⟨g,6,none⟩=some (.slice A3 x.mail.length c3):=hk0.cell 6
 have xa7:W.cell? ⟨g,7,none⟩=some (.slice A4 x.watches.length c4):=hk0.cell 7
 have ya0:W.cell? ⟨g+1,0,none⟩=some (.int .u64 y.number):=hj0.cell 0
 have ya1:W.cell? ⟨g+1,1,none⟩=some (.int .i64 y.idm):=hj0.cell 1
 have ya2:W.cell? ⟨g+1,2,none⟩=some (.int .i64 y.ids):=hj0.cell 2
 have ya3:W.cell? ⟨g+1,3,none⟩=some (.int .i64 y.kind):=hj0.cell 3
 have ya4:W.cell? ⟨g+1,4,none⟩=some (.int .i64 y.cls):=hj0.cell 4
 have ya5:W.cell? ⟨g+1,5,none⟩=some (.slice B2 y.fields.length d2):=hj0.cell 5
 have ya6:W.cell? ⟨g+1,6,none⟩=some (.slice B3 y.mail.length d3):=hj0.cell 6
 have ya7:W.cell? ⟨g+1,7,none⟩=some (.slice B4 y.watches.length d4):=hj0.cell 7
 have HK0:=lh hk0
 have HJ0:=lh hj0
 have HB0:=lh hb0
 clear hb0 hk0 hj0 hR hx2 hy2 hx3 hy3 hx4 hy4
 go_enter Tryz.func30,Tryz.ntmps30
 go_upto_region 1 with fail
 rw[← hW,← hg]
 clear hW hg
 cases h0:decide (x.number=y.number) with
 | true =>
  have q0:(x.number != y.number)=false:=by show(!(x.number == y.number))=_;rw[show(x.number == y.number)=_ from h0];rfl
  have H0:=lh h0
  clear h0
  cases h1:decide (x.idm=y.idm∧x.ids=y.ids) with
  | true =>
   have q1:∀ W,(binOp .neq 24 (.agg #[.int .i64 x.idm,.int .i64 x.ids]) (.agg #[.int .i64 y.idm,.int .i64 y.ids])).run Tryz.prog W=.ok (.bool false) W:=fun W=>by rw[neq_id,h1];rfl
   have H1:=lh h1
   clear h1
   cases h2:decide (x.kind=y.kind) with
   | true =>
    have q2:(x.kind != y.kind)=false:=by show(!(x.kind == y.kind))=_;rw[show(x.kind == y.kind)=_ from h2];rfl
    have H2:=lh h2
    clear h2
    cases h3:decide (x.cls=y.cls) with
    | true =>
     have q3:(x.cls != y.cls)=false:=by show(!(x.cls == y.cls))=_;rw[show(x.cls == y.cls)=_ from h3];rfl
     have H3:=lh h3
     clear h3
     cases h4:decide (x.fields=y.fields) with
     | true =>
      have kc4:=SameRefs_any MX20.out MY20.out
      rw[h4] at kc4
      have H4:=lh h4
      clear h4
      go_wp2_with fail
      refine kc4.mono ?_
      rintro e w1 ⟨rfl,hb1⟩
      have HB1:=lh (HB0.out.trans (hb1.mono HB0.out.size))
      have hk1:=HK0.out.below hb1 HK0.out.lt
      have hj1:=HJ0.out.below hb1 HJ0.out.lt
      have MX21:Hid (LsI (flat rfC) 26 8 w1 A2 c2 x.fields):=lh (MX20.out.below (flat_ru _) (flat_rk _) hb1)
      have MY21:Hid (LsI (flat rfC) 26 8 w1 B2 d2 y.fields):=lh (MY20.out.below (flat_ru _) (flat_rk _) hb1)
      have MX31:Hid (LsI (LtR) 29 4 w1 A3 c3 x.mail):=lh (MX30.out.below (ltR_ru) (ltR_rk) hb1)
      have MY31:Hid (LsI (LtR) 29 4 w1 B3 d3 y.mail):=lh (MY30.out.below (ltR_ru) (ltR_rk) hb1)
      have MX41:Hid (LsI (flat waC) 65 12 w1 A4 c4 x.watches):=lh (MX40.out.below (flat_ru _) (flat_rk _) hb1)
      have MY41:Hid (LsI (flat waC) 65 12 w1 B4 d4 y.watches):=lh (MY40.out.below (flat_ru _) (flat_rk _) hb1)
      have xb0:w1.cell? ⟨g,0,none⟩=some (.int .u64 x.number):=hk1.cell 0
      have xb1:w1.cell? ⟨g,1,none⟩=some (.int .i64 x.idm):=hk1.cell 1
      have xb2:w1.cell? ⟨g,2,none⟩=some (.int .i64 x.ids):=hk1.cell 2
      have xb3:w1.cell? ⟨g,3,none⟩=some (.int .i64 x.kind):=hk1.cell 3
      have xb4:w1.cell? ⟨g,4,none⟩=some (.int .i64 x.cls):=hk1.cell 4
      have xb5:w1.cell? ⟨g,5,none⟩=some (.slice A2 x.fields.length c2):=hk1.cell 5
      have xb6:w1.cell? ⟨g,6,none⟩=some (.slice A3 x.mail.length c3):=hk1.cell 6
      have xb7:w1.cell? ⟨g,7,none⟩=some (.slice A4 x.watches.length c4):=hk1.cell 7
      have yb0:w1.cell? ⟨g+1,0,none⟩=some (.int .u64 y.number):=hj1.cell 0
      have yb1:w1.cell? ⟨g+1,1,none⟩=some (.int .i64 y.idm):=hj1.cell 1
      have yb2:w1.cell? ⟨g+1,2,none⟩=some (.int .i64 y.ids):=hj1.cell 2
      have yb3:w1.cell? ⟨g+1,3,none⟩=some (.int .i64 y.kind):=hj1.cell 3
      have yb4:w1.cell? ⟨g+1,4,none⟩=some (.int .i64 y.cls):=hj1.cell 4
      have yb5:w1.cell? ⟨g+1,5,none⟩=some (.slice B2 y.fields.length d2):=hj1.cell 5
      have yb6:w1.cell? ⟨g+1,6,none⟩=some (.slice B3 y.mail.length d3):=hj1.cell 6
      have yb7:w1.cell? ⟨g+1,7,none⟩=some (.slice B4 y.watches.length d4):=hj1.cell 7
      have HK1:=lh hk1
      have HJ1:=lh hj1
      clear hb1 hk1 hj1 kc4 xa0 ya0 xa1 ya1 xa2 ya2 xa3 ya3 xa4 ya4 xa5 ya5 xa6 ya6 xa7 ya7
      cases h5:decide (x.mail.length=y.mail.length) with
      | true =>
       have q5:((x.mail.length:Int) != (y.mail.length:Int))=false:=by rw[len_ne,h5];rfl
       have H5:=lh h5
       clear h5
       cases h6:decide (x.watches.length=y.watches.length) with
       | true =>
        have q6:((x.watches.length:Int) != (y.watches.length:Int))=false:=by rw[len_ne,h6];rfl
        have H6:=lh h6
        clear h6
        have HLEN3:Hid (x.mail.length=y.mail.length):=lh (of_decide_eq_true H5.out)
        have lx3a:=MX31.out.le.1
        have lx3b:=MX31.out.le.2
        have ly3a:=MY31.out.le.1
        have HW3:Hid (Below w1.heap.size w1 w1):=lh (Below.refl _ _)
        go_wp2_with fail
        clear xb0 yb0 xb1 yb1 xb2 yb2 xb3 yb3 xb4 yb4 xb5 yb5 xb6 yb6 xb7 yb7
        go_loopw [5] (fun ix wr=>∃ j:Nat,ix=.int .i64 (j:Int)∧j≤x.mail.length∧x.mail.take j=y.mail.take j∧Below w1.heap.size w1 wr) (fun ix _=>x.mail.length - (intOf ix).toNat)
        case atStart=>exact⟨0,rfl,Nat.zero_le _,rfl,HW3.out⟩
        case round =>
         obtain⟨j,rfl,hj,ht,hbl⟩:=hrel
         have HT:=lh (And.intro ht hbl)
         have zx:=(HK1.out.below hbl HK1.out.lt).cell 6
         have zy:=(HJ1.out.below hbl HJ1.out.lt).cell 6
         simp only[List.getElem?_toArray,List.getElem?_cons_zero,List.getElem?_cons_succ] at zx zy
         clear ht hbl
         by_cases hlt:j < x.mail.length
         ·have hlt2:j < y.mail.length:=by rw[← HLEN3.out];exact hlt
          obtain⟨p,hp⟩:∃ p,x.mail[j]?=some p:=⟨_,List.getElem?_eq_getElem hlt⟩
          obtain⟨q,hq⟩:∃ q,y.mail[j]?=some q:=⟨_,List.getElem?_eq_getElem hlt2⟩
          obtain⟨ba,oa,ra,hA,_,hra,hca⟩:=MX31.out.get hp
          obtain⟨bb,ob,rb,hB,_,hrb,hcb⟩:=MY31.out.get hq
          subst hA hB
          have HXY:=lh (And.intro hp hq)
          obtain⟨Ap,cp,hra,hlp⟩:=hra
          obtain⟨Aq,cq,hrb,hlq⟩:=hrb
          have HLP:=lh (LsI.below (show LsI (flat rfC) 26 8 _ Ap cp p.args from hlp) (flat_ru _) (flat_rk _) HT.out.2)
          have HLQ:=lh (LsI.below (show LsI (flat rfC) 26 8 _ Aq cq q.args from hlq) (flat_ru _) (flat_rk _) HT.out.2)
          clear hlp hlq
          have e0:wr.cell? ⟨ba,oa+j*4,none⟩=some (.int .i64 p.idm):=(bcell HT.out.2).1 _ _ (cell_lt (hca 0 _ (by rw[hra];rfl))) |>.trans (hca 0 _ (by rw[hra];rfl))
          have e1:wr.cell? ⟨ba,oa+j*4+1,none⟩=some (.int .i64 p.ids):=(bcell HT.out.2).1 _ _ (cell_lt (hca 1 _ (by rw[hra];rfl))) |>.trans (hca 1 _ (by rw[hra];rfl))
          have e2:wr.cell? ⟨ba,oa+j*4+2,none⟩=some (.string p.meth):=(bcell HT.out.2).1 _ _ (cell_lt (hca 2 _ (by rw[hra];rfl))) |>.trans (hca 2 _ (by rw[hra];rfl))
          have e3:wr.cell? ⟨ba,oa+j*4+3,none⟩=some (.slice Ap p.args.length cp):=(bcell HT.out.2).1 _ _ (cell_lt (hca 3 _ (by rw[hra];rfl))) |>.trans (hca 3 _ (by rw[hra];rfl))
          have f0:wr.cell? ⟨bb,ob+j*4,none⟩=some (.int .i64 q.idm):=(bcell HT.out.2).1 _ _ (cell_lt (hcb 0 _ (by rw[hrb];rfl))) |>.trans (hcb 0 _ (by rw[hrb];rfl))
          have f1:wr.cell? ⟨bb,ob+j*4+1,none⟩=some (.int .i64 q.ids):=(bcell HT.out.2).1 _ _ (cell_lt (hcb 1 _ (by rw[hrb];rfl))) |>.trans (hcb 1 _ (by rw[hrb];rfl))
          have f2:wr.cell? ⟨bb,ob+j*4+2,none⟩=some (.string q.meth):=(bcell HT.out.2).1 _ _ (cell_lt (hcb 2 _ (by rw[hrb];rfl))) |>.trans (hcb 2 _ (by rw[hrb];rfl))
          have f3:wr.cell? ⟨bb,ob+j*4+3,none⟩=some (.slice Aq q.args.length cq):=(bcell HT.out.2).1 _ _ (cell_lt (hcb 3 _ (by rw[hrb];rfl))) |>.trans (hcb 3 _ (by rw[hrb];rfl))
          have hjc:j < c3:=by omega
          have hjd:j < d3:=by omega
          have hjm:(j:Int)+1≤9223372036854775807:=by omega
          have ke0:=cell_regrown e0
          have kf0:=cell_regrown f0
          have ke1:=cell_regrown e1
          have kf1:=cell_regrown f1
          have ke2:=cell_regrown e2
          have kf2:=cell_regrown f2
          have ke3:=cell_regrown e3
          have kf3:=cell_regrown f3
          have kzx:=cell_regrown zx
          have kzy:=cell_regrown zy
          have cL:=fun dd os=>Calls.regrown_of (w:=wr) (SameLetter_any (x:=p) (y:=q) (LsI.below HLP.out (flat_ru _) (flat_rk _) (below_regrown wr dd os)) (LsI.below HLQ.out (flat_ru _) (flat_rk _) (below_regrown wr dd os)))
          clear hp hq hca hcb hra hrb
          by_cases he:p=q
          ·subst he
           rw[decide_eq_true rfl] at cL
           go_upto_region 6 with fail
           clear zx zy e0 f0 e1 f1 e2 f2 e3 f3
           refine wp_region_quiet_below (by kernel_rfl) (by kernel_rfl) ?_
           repeat (first | go_big_quiet_step ((go_at_call 29;exact cL _ _)) | quiet_step ((go_at_call 29;exact cL _ _)))
           refine wpQuiet_nil ?_
           intro w5 hw'
           have hb5:=quiet_below_one hw'
           have HBD:=lh (HT.out.2.trans (hb5.mono HT.out.2.size))
           clear hw' hb5 cL kzx kzy ke0 kf0 ke1 kf1 ke2 kf2 ke3 kf3
           go_wp2_with fail
           go_roundw
           case rel=>exact⟨j+1,by go_num,hlt,by rw[List.take_add_one,List.take_add_one,HXY.out.1,HXY.out.2,HT.out.1],HBD.out⟩
           case measure=>simp[intOf];omega
          ·have HE:Hid (decide (x.mail=y.mail)=false):=lh (decide_eq_false fun e=>he (by have h1:=HXY.out.1;rw[e,HXY.out.2] at h1;injection h1 with h1;exact h1.symm))
           rw[decide_eq_false he] at cL
           clear he
           go_upto_region 6 with fail
           clear zx zy e0 f0 e1 f1 e2 f2 e3 f3
           refine wp_region_quiet_below (by kernel_rfl) (by kernel_rfl) ?_
           repeat (first | go_big_quiet_step ((go_at_call 29;exact cL _ _)) | quiet_step ((go_at_call 29;exact cL _ _)))
           refine wpQuiet_nil ?_
           intro w5 hw'
           have hb5:=quiet_below_one hw'
           have HBD:=lh (HT.out.2.trans (hb5.mono HT.out.2.size))
           clear hw' hb5 cL kzx kzy ke0 kf0 ke1 kf1 ke2 kf2 ke3 kf3
           go_wp2_with fail
           go_ret
           refine⟨congrArg (fun b=>Ending.returned (Value.bool b)) ?_,HB1.out.trans (HBD.out.mono HB1.out.size)⟩
           rw[HR.out,pc_eq]
           simp[HE.out]
         ·obtain rfl:j=x.mail.length:=by omega
          have he:x.mail=y.mail:=by have:=HT.out.1;rw[List.take_length,HLEN3.out,List.take_length] at this;exact this
          have HE3:Hid (decide (x.mail=y.mail)=true):=lh (decide_eq_true he)
          clear hlt hj he
          obtain⟨wm,rfl⟩:∃ wm:World,wm=wr:=⟨_,rfl⟩
          have HB2:=lh (HB1.out.trans (HT.out.2.mono HB1.out.size))
          have HK2:=lh (HK1.out.below HT.out.2 HK1.out.lt)
          have HJ2:=lh (HJ1.out.below HT.out.2 HJ1.out.lt)
          have MX42:Hid (LsI (flat waC) 65 12 wm A4 c4 x.watches):=lh (MX41.out.below (flat_ru _) (flat_rk _) HT.out.2)
          have MY42:Hid (LsI (flat waC) 65 12 wm B4 d4 y.watches):=lh (MY41.out.below (flat_ru _) (flat_rk _) HT.out.2)
          clear lx3a lx3b ly3a HLEN3 HW3
          have vx:=HK2.out.cell 7
          have vy:=HJ2.out.cell 7
          simp only[List.getElem?_toArray,List.getElem?_cons_zero,List.getElem?_cons_succ] at vx vy
          have HLEN4:Hid (x.watches.length=y.watches.length):=lh (of_decide_eq_true H6.out)
          have lx4a:=MX42.out.le.1
          have lx4b:=MX42.out.le.2
          have ly4a:=MY42.out.le.1
          have HW4:Hid (Below wm.heap.size wm wm):=lh (Below.refl _ _)
          go_wp2_with fail
          clear vx vy
          go_loopw [6] (fun ix wr=>∃ j:Nat,ix=.int .i64 (j:Int)∧j≤x.watches.length∧x.watches.take j=y.watches.take j∧Below wm.heap.size wm wr) (fun ix _=>x.watches.length - (intOf ix).toNat)
          case atStart=>exact⟨0,rfl,Nat.zero_le _,rfl,HW4.out⟩
          case round =>
           obtain⟨j,rfl,hj,ht,hbl⟩:=hrel
           have HT:=lh (And.intro ht hbl)
           have zx:=(HK2.out.below hbl HK2.out.lt).cell 7
           have zy:=(HJ2.out.below hbl HJ2.out.lt).cell 7
           simp only[List.getElem?_toArray,List.getElem?_cons_zero,List.getElem?_cons_succ] at zx zy
           clear ht hbl
           by_cases hlt:j < x.watches.length
           ·have hlt2:j < y.watches.length:=by rw[← HLEN4.out];exact hlt
            obtain⟨p,hp⟩:∃ p,x.watches[j]?=some p:=⟨_,List.getElem?_eq_getElem hlt⟩
            obtain⟨q,hq⟩:∃ q,y.watches[j]?=some q:=⟨_,List.getElem?_eq_getElem hlt2⟩
            obtain⟨ba,oa,ra,hA,_,hra,hca⟩:=MX42.out.get hp
            obtain⟨bb,ob,rb,hB,_,hrb,hcb⟩:=MY42.out.get hq
            subst hA hB
            have HXY:=lh (And.intro hp hq)
            have e0:wr.cell? ⟨ba,oa+j*12,none⟩=some (.int .i64 p.idm):=(bcell HT.out.2).1 _ _ (cell_lt (hca 0 _ (by rw[hra];rfl))) |>.trans (hca 0 _ (by rw[hra];rfl))
            have e1:wr.cell? ⟨ba,oa+j*12+1,none⟩=some (.int .i64 p.ids):=(bcell HT.out.2).1 _ _ (cell_lt (hca 1 _ (by rw[hra];rfl))) |>.trans (hca 1 _ (by rw[hra];rfl))
            have e2:wr.cell? ⟨ba,oa+j*12+2,none⟩=some (.string p.meth):=(bcell HT.out.2).1 _ _ (cell_lt (hca 2 _ (by rw[hra];rfl))) |>.trans (hca 2 _ (by rw[hra];rfl))
            have e3:wr.cell? ⟨ba,oa+j*12+3,none⟩=some (.int .i64 p.key):=(bcell HT.out.2).1 _ _ (cell_lt (hca 3 _ (by rw[hra];rfl))) |>.trans (hca 3 _ (by rw[hra];rfl))
            have e4:wr.cell? ⟨ba,oa+j*12+4,none⟩=some (.int .i64 p.tgt.kind):=(bcell HT.out.2).1 _ _ (cell_lt (hca 4 _ (by rw[hra];rfl))) |>.trans (hca 4 _ (by rw[hra];rfl))
            have e5:wr.cell? ⟨ba,oa+j*12+5,none⟩=some (.int .i64 p.tgt.int):=(bcell HT.out.2).1 _ _ (cell_lt (hca 5 _ (by rw[hra];rfl))) |>.trans (hca 5 _ (by rw[hra];rfl))
            have e6:wr.cell? ⟨ba,oa+j*12+6,none⟩=some (.int .i64 p.tgt.owner):=(bcell HT.out.2).1 _ _ (cell_lt (hca 6 _ (by rw[hra];rfl))) |>.trans (hca 6 _ (by rw[hra];rfl))
            have e7:wr.cell? ⟨ba,oa+j*12+7,none⟩=some (.int .u64 p.tgt.number):=(bcell HT.out.2).1 _ _ (cell_lt (hca 7 _ (by rw[hra];rfl))) |>.trans (hca 7 _ (by rw[hra];rfl))
            have e8:wr.cell? ⟨ba,oa+j*12+8,none⟩=some (.int .i64 p.tgt.idm):=(bcell HT.out.2).1 _ _ (cell_lt (hca 8 _ (by rw[hra];rfl))) |>.trans (hca 8 _ (by rw[hra];rfl))
            have e9:wr.cell? ⟨ba,oa+j*12+9,none⟩=some (.int .i64 p.tgt.ids):=(bcell HT.out.2).1 _ _ (cell_lt (hca 9 _ (by rw[hra];rfl))) |>.trans (hca 9 _ (by rw[hra];rfl))
            have e10:wr.cell? ⟨ba,oa+j*12+10,none⟩=some (.int .i64 p.tgt.cls):=(bcell HT.out.2).1 _ _ (cell_lt (hca 10 _ (by rw[hra];rfl))) |>.trans (hca 10 _ (by rw[hra];rfl))
            have e11:wr.cell? ⟨ba,oa+j*12+11,none⟩=some (.bool p.tgt.weak):=(bcell HT.out.2).1 _ _ (cell_lt (hca 11 _ (by rw[hra];rfl))) |>.trans (hca 11 _ (by rw[hra];rfl))
            have f0:wr.cell? ⟨bb,ob+j*12,none⟩=some (.int .i64 q.idm):=(bcell HT.out.2).1 _ _ (cell_lt (hcb 0 _ (by rw[hrb];rfl))) |>.trans (hcb 0 _ (by rw[hrb];rfl))
            have f1:wr.cell? ⟨bb,ob+j*12+1,none⟩=some (.int .i64 q.ids):=(bcell HT.out.2).1 _ _ (cell_lt (hcb 1 _ (by rw[hrb];rfl))) |>.trans (hcb 1 _ (by rw[hrb];rfl))
            have f2:wr.cell? ⟨bb,ob+j*12+2,none⟩=some (.string q.meth):=(bcell HT.out.2).1 _ _ (cell_lt (hcb 2 _ (by rw[hrb];rfl))) |>.trans (hcb 2 _ (by rw[hrb];rfl))
            have f3:wr.cell? ⟨bb,ob+j*12+3,none⟩=some (.int .i64 q.key):=(bcell HT.out.2).1 _ _ (cell_lt (hcb 3 _ (by rw[hrb];rfl))) |>.trans (hcb 3 _ (by rw[hrb];rfl))
            have f4:wr.cell? ⟨bb,ob+j*12+4,none⟩=some (.int .i64 q.tgt.kind):=(bcell HT.out.2).1 _ _ (cell_lt (hcb 4 _ (by rw[hrb];rfl))) |>.trans (hcb 4 _ (by rw[hrb];rfl))
            have f5:wr.cell? ⟨bb,ob+j*12+5,none⟩=some (.int .i64 q.tgt.int):=(bcell HT.out.2).1 _ _ (cell_lt (hcb 5 _ (by rw[hrb];rfl))) |>.trans (hcb 5 _ (by rw[hrb];rfl))
            have f6:wr.cell? ⟨bb,ob+j*12+6,none⟩=some (.int .i64 q.tgt.owner):=(bcell HT.out.2).1 _ _ (cell_lt (hcb 6 _ (by rw[hrb];rfl))) |>.trans (hcb 6 _ (by rw[hrb];rfl))
            have f7:wr.cell? ⟨bb,ob+j*12+7,none⟩=some (.int .u64 q.tgt.number):=(bcell HT.out.2).1 _ _ (cell_lt (hcb 7 _ (by rw[hrb];rfl))) |>.trans (hcb 7 _ (by rw[hrb];rfl))
            have f8:wr.cell? ⟨bb,ob+j*12+8,none⟩=some (.int .i64 q.tgt.idm):=(bcell HT.out.2).1 _ _ (cell_lt (hcb 8 _ (by rw[hrb];rfl))) |>.trans (hcb 8 _ (by rw[hrb];rfl))
            have f9:wr.cell? ⟨bb,ob+j*12+9,none⟩=some (.int .i64 q.tgt.ids):=(bcell HT.out.2).1 _ _ (cell_lt (hcb 9 _ (by rw[hrb];rfl))) |>.trans (hcb 9 _ (by rw[hrb];rfl))
            have f10:wr.cell? ⟨bb,ob+j*12+10,none⟩=some (.int .i64 q.tgt.cls):=(bcell HT.out.2).1 _ _ (cell_lt (hcb 10 _ (by rw[hrb];rfl))) |>.trans (hcb 10 _ (by rw[hrb];rfl))
            have f11:wr.cell? ⟨bb,ob+j*12+11,none⟩=some (.bool q.tgt.weak):=(bcell HT.out.2).1 _ _ (cell_lt (hcb 11 _ (by rw[hrb];rfl))) |>.trans (hcb 11 _ (by rw[hrb];rfl))
            have hjc:j < c4:=by omega
            have hjd:j < d4:=by omega
            have hjm:(j:Int)+1≤9223372036854775807:=by omega
            have HBD:Hid (∀ k,Below wm.heap.size wm (wr.drewN k)):=lh fun k=>⟨HT.out.2.os,HT.out.2.tape,HT.out.2.output,HT.out.2.size,HT.out.2.block⟩
            have hne:=fun WW=>neq_wa WW p q
            clear hp hq hca hcb hra hrb
            by_cases he:p=q
            ·subst he
             rw[show decide (p≠p)=false by simp] at hne
             go_upto_region 11 with fail
             go_quiet (fail)
             go_wp2_with fail
             go_roundw
             case rel=>exact⟨j+1,by go_num,hlt,by rw[List.take_add_one,List.take_add_one,HXY.out.1,HXY.out.2,HT.out.1],HBD.out _⟩
             case measure=>simp[intOf];omega
            ·have HE:Hid (decide (x.watches=y.watches)=false):=lh (decide_eq_false fun e=>he (by have h1:=HXY.out.1;rw[e,HXY.out.2] at h1;injection h1 with h1;exact h1.symm))
             rw[show decide (p≠q)=true by simpa using he] at hne
             clear he
             go_upto_region 11 with fail
             go_quiet (fail)
             go_wp2_with fail
             go_ret
             refine⟨congrArg (fun b=>Ending.returned (Value.bool b)) ?_,HB2.out.trans ((HBD.out _).mono HB2.out.size)⟩
             rw[HR.out,pc_eq]
             simp[HE.out]
           ·obtain rfl:j=x.watches.length:=by omega
            have he:x.watches=y.watches:=by have:=HT.out.1;rw[List.take_length,HLEN4.out,List.take_length] at this;exact this
            have HE4:Hid (decide (x.watches=y.watches)=true):=lh (decide_eq_true he)
            clear hlt hj he
            go_wp2_with fail
            go_ret
            refine⟨congrArg (fun b=>Ending.returned (Value.bool b)) ?_,HB2.out.trans (HT.out.2.mono HB2.out.size)⟩
            rw[HR.out,pc_eq]
            simp[H0.out,H1.out,H2.out,H3.out,H4.out,H5.out,H6.out,HE3.out,HE4.out]
       | false =>
        have q6:((x.watches.length:Int) != (y.watches.length:Int))=true:=by rw[len_ne,h6];rfl
        have H6:=lh h6
        clear h6
        go_wp2_with fail
        go_ret
        refine⟨congrArg (fun b=>Ending.returned (Value.bool b)) ?_,HB1.out⟩
        rw[HR.out,pc_eq]
        simp[H0.out,H1.out,H2.out,H3.out,H4.out,H5.out,H6.out]
      | false =>
       have q5:((x.mail.length:Int) != (y.mail.length:Int))=true:=by rw[len_ne,h5];rfl
       have H5:=lh h5
       clear h5
       go_wp2_with fail
       go_ret
       refine⟨congrArg (fun b=>Ending.returned (Value.bool b)) ?_,HB1.out⟩
       rw[HR.out,pc_eq]
       simp[H0.out,H1.out,H2.out,H3.out,H4.out,H5.out]
     | false =>
      have kc4:=SameRefs_any MX20.out MY20.out
      rw[h4] at kc4
      have H4:=lh h4
      clear h4
      go_wp2_with fail
      refine kc4.mono ?_
      rintro e w1 ⟨rfl,hb1⟩
      have HB1:=lh (HB0.out.trans (hb1.mono HB0.out.size))
      clear hb1 kc4 xa0 ya0 xa1 ya1 xa2 ya2 xa3 ya3 xa4 ya4 xa5 ya5 xa6 ya6 xa7 ya7
      go_wp2_with fail
      go_ret
      refine⟨congrArg (fun b=>Ending.returned (Value.bool b)) ?_,HB1.out⟩
      rw[HR.out,pc_eq]
      simp[H0.out,H1.out,H2.out,H3.out,H4.out]
    | false =>
     have q3:(x.cls != y.cls)=true:=by show(!(x.cls == y.cls))=_;rw[show(x.cls == y.cls)=_ from h3];rfl
     have H3:=lh h3
     clear h3
     go_wp2_with fail
     go_ret
     refine⟨congrArg (fun b=>Ending.returned (Value.bool b)) ?_,HB0.out⟩
     rw[HR.out,pc_eq]
     simp[H0.out,H1.out,H2.out,H3.out]
   | false =>
    have q2:(x.kind != y.kind)=true:=by show(!(x.kind == y.kind))=_;rw[show(x.kind == y.kind)=_ from h2];rfl
    have H2:=lh h2
    clear h2
    go_wp2_with fail
    go_ret
    refine⟨congrArg (fun b=>Ending.returned (Value.bool b)) ?_,HB0.out⟩
    rw[HR.out,pc_eq]
    simp[H0.out,H1.out,H2.out]
  | false =>
   have q1:∀ W,(binOp .neq 24 (.agg #[.int .i64 x.idm,.int .i64 x.ids]) (.agg #[.int .i64 y.idm,.int .i64 y.ids])).run Tryz.prog W=.ok (.bool true) W:=fun W=>by rw[neq_id,h1];rfl
   have H1:=lh h1
   clear h1
   go_wp2_with fail
   go_ret
   refine⟨congrArg (fun b=>Ending.returned (Value.bool b)) ?_,HB0.out⟩
   rw[HR.out,pc_eq]
   simp[H0.out,H1.out]
 | false =>
  have q0:(x.number != y.number)=true:=by show(!(x.number == y.number))=_;rw[show(x.number == y.number)=_ from h0];rfl
  have H0:=lh h0
  clear h0
  go_wp2_with fail
  go_ret
  refine⟨congrArg (fun b=>Ending.returned (Value.bool b)) ?_,HB0.out⟩
  rw[HR.out,pc_eq]
  simp[H0.out]
end
end Go.Proofs.YtmbnlccafcfbeaaGreatDoor
