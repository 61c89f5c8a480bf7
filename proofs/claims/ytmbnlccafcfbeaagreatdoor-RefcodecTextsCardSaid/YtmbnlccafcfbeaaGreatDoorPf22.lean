/- Parts of the proof: RsI, RsL. -/
import Derived.Test.YtmbnlccafcfbeaaGreatDoorPfA
import Derived.Test.YtmbnlccafcfbeaaGreatDoorPf16
import Derived.Test.YtmbnlccafcfbeaaGreatDoorPf18
import Derived.Test.YtmbnlccafcfbeaaGreatDoorPf20
import Derived.Test.YtmbnlccafcfbeaaGreatDoorPf21
set_option linter.unusedVariables false
set_option linter.unusedSimpArgs false
set_option linter.unusedSectionVars false
set_option maxRecDepth 100000
set_option maxHeartbeats 64000000
namespace Go.Proofs.YtmbnlccafcfbeaaGreatDoor
section
open Go.RowKit Go.Sort
attribute [local go_sem] Oper.semAt_some
theorem pcV_id {x:Pc} (h:idV x.idm x.ids=false):pcV x=false:=by unfold pcV;rw[h];rfl
theorem pcV_2 {x:Pc} (h:idV x.idm x.ids=true) (k:x.kind=2):pcV x=((x.cls == 0) && wk1 x.fields && ql3 x):=by unfold pcV;rw[h,k];rfl
theorem pcV_0 {x:Pc} (h:idV x.idm x.ids=true) (k:x.kind=0):pcV x=(qn8 x && ql3 x):=by unfold pcV;rw[h,k];rfl
theorem pcV_1 {x:Pc} (h:idV x.idm x.ids=true) (k:x.kind=1):pcV x=(qn8 x && lmV 1024 ltV x.mail && lmV 1024 waV x.watches):=by unfold pcV;rw[h,k];rfl
theorem pcV_n {x:Pc} (k0:x.kind≠0) (k1:x.kind≠1) (k2:x.kind≠2):pcV x=false:=by unfold pcV;rw[if_neg k0,if_neg k1,if_neg k2,Bool.and_false]
theorem pc2_no {x:Pc} (h:(x.cls == 0)=false ∨ ((x.fields.length:Int) == 1)=false):((x.cls == 0) && wk1 x.fields && ql3 x)=false:=by
 rcases h with h | h
 ·rw[h];rfl
 ·have h1:¬ x.fields.length=1:=fun e=>by rw[e] at h;simp at h
  have h2:wk1 x.fields=false:=by
   unfold wk1
   split
   ·rename_i f hf
    rw[hf] at h1;exact absurd rfl h1
   ·rfl
  rw[h2,Bool.and_false,Bool.false_and]
theorem bare_nil {x:Pc} (h:decide ((0:Int) < (x.mail.length:Int)+(x.watches.length:Int))=false):x.mail=[]∧x.watches=[]:=by
 have:=of_decide_eq_false h;exact⟨List.eq_nil_of_length_eq_zero (by omega),List.eq_nil_of_length_eq_zero (by omega)⟩
theorem bare_no {x:Pc} (h:decide ((0:Int) < (x.mail.length:Int)+(x.watches.length:Int))=true):ql3 x=false:=by
 have:=of_decide_eq_true h;unfold ql3
 by_cases c:x.mail.length=0
 ·have:¬ x.watches.length=0:=by omega
  simp[this]
 ·simp[c]
theorem bare_yes {x:Pc} (h:decide ((0:Int) < (x.mail.length:Int)+(x.watches.length:Int))=false):ql3 x=true:=by
 have:=of_decide_eq_false h;unfold ql3;have a:x.mail.length=0:=by omega
 have b:x.watches.length=0:=by omega
 rw[a,b];rfl
theorem RPc_any {w:World} (x:Pc) {A2:Option Addr} {c2:Nat} {A3:Option Addr} {c3:Nat} {A4:Option Addr} {c4:Nat} (hl2:LsI (qa6 rfC) 26 8 w A2 c2 x.fields) (hl3:LsI (LtR) 29 4 w A3 c3 x.mail) (hl4:LsI (qa6 waC) 65 12 w A4 c4 x.watches):Calls Tryz.prog 59 #[.agg #[uv x.number,iv x.idm,iv x.ids,iv x.kind,iv x.cls,.slice A2 x.fields.length c2,.slice A3 x.mail.length c3,.slice A4 x.watches.length c4]] w (qe7 w (pcV x)):=by
 obtain⟨R,hR⟩:∃ R,R=pcV x:=⟨_,rfl⟩
 rw[← hR];have HR:=lh hR
 obtain⟨W,hW⟩:∃ W,W=w.alloc (.cells #[uv x.number,iv x.idm,iv x.ids,iv x.kind,iv x.cls,.slice A2 x.fields.length c2,.slice A3 x.mail.length c3,.slice A4 x.watches.length c4] 33):=⟨_,rfl⟩
 obtain⟨g,hg⟩:∃ g,g=w.heap.size:=⟨_,rfl⟩
 have hb0:bw w W:=by rw[hW];exact qa2 _ _
 have hk0:Bk W g 33 #[uv x.number,iv x.idm,iv x.ids,iv x.kind,iv x.cls,.slice A2 x.fields.length c2,.slice A3 x.mail.length c3,.slice A4 x.watches.length c4]:=by rw[hW,hg];exact Bk.new _ _ _
 have HB0:=lh hb0;have HK0:=lh hk0;have L20:=lh (LsI.below hl2 (qa1 rfC) (qa0 rfC) hb0);have n2a:=hl2.le.1;have n2b:=hl2.le.2;have L30:=lh (LsI.below hl3 (qg1) (ltR_rk) hb0);have n3a:=hl3.le.1;have n3b:=hl3.le.2;have L40:=lh (LsI.below hl4 (qa1 waC) (qa0 waC) hb0);have n4a:=hl4.le.1;have n4b:=hl4.le.2;have aa0:cl W g 0 (uv x.number):=hk0.cell 0;have aa1:cl W g 1 (iv x.idm):=hk0.cell 1;have aa2:cl W g 2 (iv x.ids):=hk0.cell 2;have aa3:cl W g 3 (iv x.kind):=hk0.cell 3;have aa4:cl W g 4 (iv x.cls):=hk0.cell 4;have aa5:cl W g 5 (.slice A2 x.fields.length c2):=hk0.cell 5;have aa6:cl W g 6 (.slice A3 x.mail.length c3):=hk0.cell 6;have aa7:cl W g 7 (.slice A4 x.watches.length c4):=hk0.cell 7;clear hb0 hk0 hR hl2 hl3 hl4
 go_enter Tryz.func59,Tryz.ntmps59
 go_upto_region 1 with fail
 rw[← hW,← hg];clear hW hg
 cases h0:idV x.idm x.ids with
 | true =>
  have kc0:=qo8 W x.idm x.ids;rw[h0] at kc0;have H0:=lh h0;clear h0
  go_wp2_with fail
  refine kc0.mono ?_;rintro e w1 ⟨rfl,hb1⟩;have HB1:=lh (HB0.o.trans (hb1.mono HB0.o.size));have HK1:=lh (HK0.o.below hb1 HK0.o.lt);have L21:=lh (LsI.below L20.o (qa1 rfC) (qa0 rfC) hb1);have L31:=lh (LsI.below L30.o (qg1) (ltR_rk) hb1);have L41:=lh (LsI.below L40.o (qa1 waC) (qa0 waC) hb1);clear hb1 kc0 aa0 aa1 aa2 aa3 aa4 aa5 aa6 aa7;have ba0:cl w1 g 0 (uv x.number):=HK1.o.cell 0;have ba1:cl w1 g 1 (iv x.idm):=HK1.o.cell 1;have ba2:cl w1 g 2 (iv x.ids):=HK1.o.cell 2;have ba3:cl w1 g 3 (iv x.kind):=HK1.o.cell 3;have ba4:cl w1 g 4 (iv x.cls):=HK1.o.cell 4;have ba5:cl w1 g 5 (.slice A2 x.fields.length c2):=HK1.o.cell 5;have ba6:cl w1 g 6 (.slice A3 x.mail.length c3):=HK1.o.cell 6;have ba7:cl w1 g 7 (.slice A4 x.watches.length c4):=HK1.o.cell 7
  by_cases hk2:x.kind=2
  ·have K2:=lh hk2;have e0:(x.kind == 0)=false:=by simp[hk2]
   have f0:(x.kind != 0)=true:=by simp[hk2]
   have e1:(x.kind == 1)=false:=by simp[hk2]
   have f1:(x.kind != 1)=true:=by simp[hk2]
   have e2:(x.kind == 2)=true:=by simp[hk2]
   have f2:(x.kind != 2)=false:=by simp[hk2]
   clear hk2
   cases h1:(x.cls == 0) with
   | true =>
    have q1:(x.cls == 0)=true:=h1;have H1:=lh h1;clear h1
    cases h2:((x.fields.length:Int) == 1) with
    | true =>
     have q2:((x.fields.length:Int) == 1)=true:=h2;have H2:=lh h2;clear h2;have hl0:(x.fields.length:Int)=1:=eq_of_beq H2.o;have hl1:x.fields.length=1:=by omega
     obtain⟨y,hy⟩:∃ y,x.fields=[y]:=List.length_eq_one_iff.1 hl1;clear hl0 hl1;have HY:=lh hy;obtain⟨b,o,r,hA,_,hr,hcell⟩:=L21.o.get (k:=0) (x:=y) (by rw[hy];rfl);subst hA;have y0:w1.cell? ⟨b,o,none⟩=some (iv y.kind):=by have:=hcell 0 (iv y.kind) (by rw[hr];rfl);simpa using this
     have y1:w1.cell? ⟨b,o+1,none⟩=some (iv y.int):=by have:=hcell 1 (iv y.int) (by rw[hr];rfl);simpa using this
     have y2:w1.cell? ⟨b,o+2,none⟩=some (iv y.owner):=by have:=hcell 2 (iv y.owner) (by rw[hr];rfl);simpa using this
     have y3:w1.cell? ⟨b,o+3,none⟩=some (uv y.number):=by have:=hcell 3 (uv y.number) (by rw[hr];rfl);simpa using this
     have y4:w1.cell? ⟨b,o+4,none⟩=some (iv y.idm):=by have:=hcell 4 (iv y.idm) (by rw[hr];rfl);simpa using this
     have y5:w1.cell? ⟨b,o+5,none⟩=some (iv y.ids):=by have:=hcell 5 (iv y.ids) (by rw[hr];rfl);simpa using this
     have y6:w1.cell? ⟨b,o+6,none⟩=some (iv y.cls):=by have:=hcell 6 (iv y.cls) (by rw[hr];rfl);simpa using this
     have y7:w1.cell? ⟨b,o+7,none⟩=some (.bool y.weak):=by have:=hcell 7 (.bool y.weak) (by rw[hr];rfl);simpa using this
     have hfl:x.fields.length=1:=by rw[hy];rfl
     have h0c:0 < c2:=by omega
     have h0f:0 < x.fields.length:=by omega
     clear hy hcell hr hfl;have kw:=RWk_any (w:=w1) y
     cases hw:wkV y with
     | false =>
      rw[hw] at kw;have HWK:=lh hw;clear hw
      go_wp2_with fail
      refine kw.mono ?_;rintro e w2 ⟨rfl,hb2⟩;have HB2:=lh (HB1.o.trans (hb2.mono HB1.o.size));clear hb2 kw y0 y1 y2 y3 y4 y5 y6 y7 ba0 ba1 ba2 ba3 ba4 ba5 ba6 ba7
      go_wp2_with fail
      go_ret;refine⟨cgb ?_,HB2.o⟩;rw[HR.o,pcV_2 H0.o K2.o]
      simp[qn8,ql3,lmV,wk1,HY.o,HWK.o]
     | true =>
      rw[hw] at kw;have HWK:=lh hw;clear hw
      go_wp2_with fail
      refine kw.mono ?_;rintro e w2 ⟨rfl,hb2⟩;have HB2:=lh (HB1.o.trans (hb2.mono HB1.o.size));have HK2:=lh (HK1.o.below hb2 HK1.o.lt);clear hb2 kw y0 y1 y2 y3 y4 y5 y6 y7 ba0 ba1 ba2 ba3 ba4 ba5 ba6 ba7;have ka0:cl w2 g 0 (uv x.number):=HK2.o.cell 0;have ka1:cl w2 g 1 (iv x.idm):=HK2.o.cell 1;have ka2:cl w2 g 2 (iv x.ids):=HK2.o.cell 2;have ka3:cl w2 g 3 (iv x.kind):=HK2.o.cell 3;have ka4:cl w2 g 4 (iv x.cls):=HK2.o.cell 4;have ka5:cl w2 g 5 (.slice (some ⟨b,o,none⟩) x.fields.length c2):=HK2.o.cell 5;have ka6:cl w2 g 6 (.slice A3 x.mail.length c3):=HK2.o.cell 6;have ka7:cl w2 g 7 (.slice A4 x.watches.length c4):=HK2.o.cell 7
      cases h5:(x.mail.length:Int) == 0 with
      | true =>
       have q5:((x.mail.length:Int) == 0)=true:=h5;have H5:=lh h5;clear h5
       cases h6:(x.watches.length:Int) == 0 with
       | true =>
        have q6:((x.watches.length:Int) == 0)=true:=h6;have H6:=lh h6;clear h6
        go_wp2_with fail
        go_ret;refine⟨cgb ?_,HB2.o⟩;rw[HR.o,pcV_2 H0.o K2.o]
        simp[qn8,ql3,lmV,wk1,HY.o,HWK.o,H1.o,H2.o,eq_of_beq H5.o,eq_of_beq H6.o]
       | false =>
        have q6:((x.watches.length:Int) == 0)=false:=h6;have H6:=lh h6;clear h6
        go_wp2_with fail
        go_ret;refine⟨cgb ?_,HB2.o⟩;rw[HR.o,pcV_2 H0.o K2.o]
        simp[qn8,ql3,lmV,wk1,HY.o,HWK.o,eq_of_beq H5.o,H6.o]
      | false =>
       have q5:((x.mail.length:Int) == 0)=false:=h5;have H5:=lh h5;clear h5
       go_wp2_with fail
       go_ret;refine⟨cgb ?_,HB2.o⟩;rw[HR.o,pcV_2 H0.o K2.o]
       simp[qn8,ql3,lmV,wk1,HY.o,HWK.o,H5.o]
    | false =>
     have q2:((x.fields.length:Int) == 1)=false:=h2;have H2:=lh h2;clear h2
     go_wp2_with fail
     have HN:Hid ((x.cls == 0)=false ∨ ((x.fields.length:Int) == 1)=false):=lh (by first | exact .inl H1.o | exact .inr H2.o);go_ret;refine⟨cgb ?_,HB1.o⟩;rw[HR.o,pcV_2 H0.o K2.o];exact(pc2_no HN.o).symm
   | false =>
    have q1:(x.cls == 0)=false:=h1;have H1:=lh h1;clear h1
    go_wp2_with fail
    have HN:Hid ((x.cls == 0)=false ∨ ((x.fields.length:Int) == 1)=false):=lh (by first | exact .inl H1.o | exact .inr H2.o);go_ret;refine⟨cgb ?_,HB1.o⟩;rw[HR.o,pcV_2 H0.o K2.o];exact(pc2_no HN.o).symm
  by_cases hk0:x.kind=0
  ·have K0:=lh hk0;have e0:(x.kind == 0)=true:=by simp[hk0]
   have f0:(x.kind != 0)=false:=by simp[hk0]
   have e1:(x.kind == 1)=false:=by simp[hk0]
   have f1:(x.kind != 1)=true:=by simp[hk0]
   have e2:(x.kind == 2)=false:=by simp[hk0]
   have f2:(x.kind != 2)=true:=by simp[hk0]
   clear hk0 hk2
   cases h1:decide (x.cls < 1) with
   | true =>
    have q1:decide (x.cls < 1)=true:=h1;have H1:=lh h1;clear h1
    go_wp2_with fail
    go_ret;refine⟨cgb ?_,HB1.o⟩;rw[HR.o,pcV_0 H0.o K0.o]
    simp[qn8,lmV,Int.not_le.2 (of_decide_eq_true H1.o)]
   | false =>
    have q1:decide (x.cls < 1)=false:=h1;have H1:=lh h1;clear h1
    cases h2:decide (60 < x.cls) with
    | true =>
     have q2:decide (60 < x.cls)=true:=h2;have H2:=lh h2;clear h2
     go_wp2_with fail
     go_ret;refine⟨cgb ?_,HB1.o⟩;rw[HR.o,pcV_0 H0.o K0.o]
     simp[qn8,lmV,Int.not_lt.1 (of_decide_eq_false H1.o),Int.not_le.2 (of_decide_eq_true H2.o)]
    | false =>
     have q2:decide (60 < x.cls)=false:=h2;have H2:=lh h2;clear h2
     cases h3:decide ((30:Int) < (x.fields.length:Int)) with
     | true =>
      have q3:decide ((30:Int) < (x.fields.length:Int))=true:=h3;have H3:=lh h3;clear h3
      go_wp2_with fail
      go_ret;refine⟨cgb ?_,HB1.o⟩;rw[HR.o,pcV_0 H0.o K0.o]
      simp[qn8,lmV,Int.not_lt.1 (of_decide_eq_false H1.o),Int.not_lt.1 (of_decide_eq_false H2.o),Int.not_le.2 (of_decide_eq_true H3.o)]
     | false =>
      have q3:decide ((30:Int) < (x.fields.length:Int))=false:=h3;have H3:=lh h3;clear h3
      cases h4:x.fields.all plV with
      | true =>
       have kc4:=qk3 L21.o;rw[h4] at kc4;have H4:=lh h4;clear h4
       go_wp2_with fail
       refine kc4.mono ?_;rintro e w2 ⟨rfl,hb2⟩;have HB2:=lh (HB1.o.trans (hb2.mono HB1.o.size));have HK2:=lh (HK1.o.below hb2 HK1.o.lt);have L22:=lh (LsI.below L21.o (qa1 rfC) (qa0 rfC) hb2);have L32:=lh (LsI.below L31.o (qg1) (ltR_rk) hb2);have L42:=lh (LsI.below L41.o (qa1 waC) (qa0 waC) hb2);clear hb2 kc4 ba0 ba1 ba2 ba3 ba4 ba5 ba6 ba7;have ca0:cl w2 g 0 (uv x.number):=HK2.o.cell 0;have ca1:cl w2 g 1 (iv x.idm):=HK2.o.cell 1;have ca2:cl w2 g 2 (iv x.ids):=HK2.o.cell 2;have ca3:cl w2 g 3 (iv x.kind):=HK2.o.cell 3;have ca4:cl w2 g 4 (iv x.cls):=HK2.o.cell 4;have ca5:cl w2 g 5 (.slice A2 x.fields.length c2):=HK2.o.cell 5;have ca6:cl w2 g 6 (.slice A3 x.mail.length c3):=HK2.o.cell 6;have ca7:cl w2 g 7 (.slice A4 x.watches.length c4):=HK2.o.cell 7
       cases h5:decide ((0:Int) < (x.mail.length:Int)+(x.watches.length:Int)) with
       | true =>
        have q5:decide ((0:Int) < (x.mail.length:Int)+(x.watches.length:Int))=true:=h5;have H5:=lh h5;clear h5
        go_wp2_with fail
        go_ret;refine⟨cgb ?_,HB2.o⟩;rw[HR.o,pcV_0 H0.o K0.o]
        simp[qn8,lmV,Int.not_lt.1 (of_decide_eq_false H1.o),Int.not_lt.1 (of_decide_eq_false H2.o),Int.not_lt.1 (of_decide_eq_false H3.o),H4.o,bare_no H5.o]
       | false =>
        have q5:decide ((0:Int) < (x.mail.length:Int)+(x.watches.length:Int))=false:=h5;have H5:=lh h5;clear h5
        cases h6:decide ((1024:Int) < (x.mail.length:Int)) with
        | true =>
         have q6:decide ((1024:Int) < (x.mail.length:Int))=true:=h6;have H6:=lh h6;clear h6
         go_wp2_with fail
         exact absurd (of_decide_eq_true H6.o) (by rw[(bare_nil H5.o).1];decide)
        | false =>
         have q6:decide ((1024:Int) < (x.mail.length:Int))=false:=h6;have H6:=lh h6;clear h6
         cases h7:decide ((1024:Int) < (x.watches.length:Int)) with
         | true =>
          have q7:decide ((1024:Int) < (x.watches.length:Int))=true:=h7;have H7:=lh h7;clear h7
          go_wp2_with fail
          exact absurd (of_decide_eq_true H7.o) (by rw[(bare_nil H5.o).2];decide)
         | false =>
          have q7:decide ((1024:Int) < (x.watches.length:Int))=false:=h7;have H7:=lh h7;clear h7
          go_wp2_with fail
          clear ca0 ca1 ca2 ca3 ca4 ca5 ca6 ca7;have HBE:=lh (bare_nil H5.o)
          go_loopw [3] (fun ix wr=>∃ j:Nat,ix=iv (j:Int)∧j≤x.mail.length∧(x.mail.take j).all ltV=true∧bw w2 wr) (fun ix _=>x.mail.length - (intOf ix).toNat)
          case atStart=>exact⟨0,rfl,Nat.zero_le _,rfl,Below.refl _ _⟩
          case round =>
           obtain⟨j,rfl,hj,ht,hbl⟩:=hrel;have HT:=lh (And.intro ht hbl);have zx:=(HK2.o.below hbl HK2.o.lt).cell 6;simp only[List.getElem?_toArray,List.getElem?_cons_zero,List.getElem?_cons_succ] at zx;clear ht hbl
           by_cases hlt:j < x.mail.length
           ·obtain⟨p,hp⟩:∃ p,x.mail[j]?=some p:=⟨_,List.getElem?_eq_getElem hlt⟩
            obtain⟨b,o,r,hA,_,hr,hcell⟩:=L32.o.get hp;subst hA;have HP:=lh hp;obtain⟨Ap,cp,hr,hlp⟩:=hr;have HLP:=lh (LsI.below (show LsI (qa6 rfC) 26 8 _ Ap cp p.args from hlp) (qa1 _) (qa0 _) HT.o.2);clear hlp;have e0:cl wr b (o+j*4) (iv p.idm):=(qa9 HT.o.2).1 _ _ (qa4 (hcell 0 _ (by rw[hr];rfl))) |>.trans (hcell 0 _ (by rw[hr];rfl));have e1:cl wr b (o+j*4+1) (iv p.ids):=(qa9 HT.o.2).1 _ _ (qa4 (hcell 1 _ (by rw[hr];rfl))) |>.trans (hcell 1 _ (by rw[hr];rfl));have e2:cl wr b (o+j*4+2) (.string p.meth):=(qa9 HT.o.2).1 _ _ (qa4 (hcell 2 _ (by rw[hr];rfl))) |>.trans (hcell 2 _ (by rw[hr];rfl));have e3:cl wr b (o+j*4+3) (.slice Ap p.args.length cp):=(qa9 HT.o.2).1 _ _ (qa4 (hcell 3 _ (by rw[hr];rfl))) |>.trans (hcell 3 _ (by rw[hr];rfl));have hjc:j < c3:=by omega
            have kc:=(show Calls Tryz.prog _ _ wr _ from RLt_any p HLP.o)
            cases hv:ltV p with
            | false =>
             rw[hv] at kc;have HV:=lh hv;clear hv
             go_wp2_with fail
             refine kc.mono ?_;rintro e w2 ⟨rfl,hb2⟩;have HC2:=lh (HT.o.2.trans (hb2.mono HT.o.2.size));have z2:=(HK2.o.below HC2.o HK2.o.lt).cell 6;simp only[List.getElem?_toArray,List.getElem?_cons_zero,List.getElem?_cons_succ] at z2;clear zx;clear kc hb2 hp hcell hr e0 e1 e2 e3;have HQ:Hid (x.mail.all ltV=false):=lh (by rw[List.all_eq_false];exact⟨p,List.mem_of_getElem? HP.o,by simp[HV.o]⟩)
             go_wp2_with fail
             go_ret;refine⟨cgb ?_,HB2.o.trans (HC2.o.mono HB2.o.size)⟩;exact absurd HQ.o (by rw[HBE.o.1];simp)
            | true =>
             rw[hv] at kc;have HV:=lh hv;clear hv
             go_wp2_with fail
             refine kc.mono ?_;rintro e w2 ⟨rfl,hb2⟩;have HC2:=lh (HT.o.2.trans (hb2.mono HT.o.2.size));have z2:=(HK2.o.below HC2.o HK2.o.lt).cell 6;simp only[List.getElem?_toArray,List.getElem?_cons_zero,List.getElem?_cons_succ] at z2;clear zx;clear kc hb2 hp hcell hr e0 e1 e2 e3;have HQ:Hid (ltV p=true):=lh (by simp[HV.o])
             go_wp2_with fail
             go_roundw
             case rel=>exact⟨j+1,by go_num,hlt,by rw[List.take_add_one,HP.o,List.all_append,HT.o.1];simp[HQ.o],HC2.o⟩
             case measure=>simp[intOf];omega
           ·obtain rfl:j=x.mail.length:=by omega
            have HE:Hid (x.mail.all ltV=true):=lh (by have:=HT.o.1;rw[List.take_length] at this;exact this);clear hlt hj
            obtain⟨wm,rfl⟩:∃ wm:World,wm=wr:=⟨_,rfl⟩
            have HBm:=lh (HB2.o.trans (HT.o.2.mono HB2.o.size));have HKm:=lh (HK2.o.below HT.o.2 HK2.o.lt);have L4m:=lh (LsI.below L42.o (qa1 waC) (qa0 waC) HT.o.2);have HE3:=HE;have vx:=HKm.o.cell 7;simp only[List.getElem?_toArray,List.getElem?_cons_zero,List.getElem?_cons_succ] at vx
            go_wp2_with fail
            clear vx zx
            go_loopw [4] (fun ix wr=>∃ j:Nat,ix=iv (j:Int)∧j≤x.watches.length∧(x.watches.take j).all waV=true∧bw wm wr) (fun ix _=>x.watches.length - (intOf ix).toNat)
            case atStart=>exact⟨0,rfl,Nat.zero_le _,rfl,Below.refl _ _⟩
            case round =>
             obtain⟨j,rfl,hj,ht,hbl⟩:=hrel;have HT:=lh (And.intro ht hbl);have zx:=(HKm.o.below hbl HKm.o.lt).cell 7;simp only[List.getElem?_toArray,List.getElem?_cons_zero,List.getElem?_cons_succ] at zx;clear ht hbl
             by_cases hlt:j < x.watches.length
             ·obtain⟨p,hp⟩:∃ p,x.watches[j]?=some p:=⟨_,List.getElem?_eq_getElem hlt⟩
              obtain⟨b,o,r,hA,_,hr,hcell⟩:=L4m.o.get hp;subst hA;have HP:=lh hp;have e0:cl wr b (o+j*12) (iv p.idm):=(qa9 HT.o.2).1 _ _ (qa4 (hcell 0 _ (by rw[hr];rfl))) |>.trans (hcell 0 _ (by rw[hr];rfl));have e1:cl wr b (o+j*12+1) (iv p.ids):=(qa9 HT.o.2).1 _ _ (qa4 (hcell 1 _ (by rw[hr];rfl))) |>.trans (hcell 1 _ (by rw[hr];rfl));have e2:cl wr b (o+j*12+2) (.string p.meth):=(qa9 HT.o.2).1 _ _ (qa4 (hcell 2 _ (by rw[hr];rfl))) |>.trans (hcell 2 _ (by rw[hr];rfl));have e3:cl wr b (o+j*12+3) (iv p.key):=(qa9 HT.o.2).1 _ _ (qa4 (hcell 3 _ (by rw[hr];rfl))) |>.trans (hcell 3 _ (by rw[hr];rfl));have e4:cl wr b (o+j*12+4) (iv p.tgt.kind):=(qa9 HT.o.2).1 _ _ (qa4 (hcell 4 _ (by rw[hr];rfl))) |>.trans (hcell 4 _ (by rw[hr];rfl));have e5:cl wr b (o+j*12+5) (iv p.tgt.int):=(qa9 HT.o.2).1 _ _ (qa4 (hcell 5 _ (by rw[hr];rfl))) |>.trans (hcell 5 _ (by rw[hr];rfl));have e6:cl wr b (o+j*12+6) (iv p.tgt.owner):=(qa9 HT.o.2).1 _ _ (qa4 (hcell 6 _ (by rw[hr];rfl))) |>.trans (hcell 6 _ (by rw[hr];rfl));have e7:cl wr b (o+j*12+7) (uv p.tgt.number):=(qa9 HT.o.2).1 _ _ (qa4 (hcell 7 _ (by rw[hr];rfl))) |>.trans (hcell 7 _ (by rw[hr];rfl));have e8:cl wr b (o+j*12+8) (iv p.tgt.idm):=(qa9 HT.o.2).1 _ _ (qa4 (hcell 8 _ (by rw[hr];rfl))) |>.trans (hcell 8 _ (by rw[hr];rfl));have e9:cl wr b (o+j*12+9) (iv p.tgt.ids):=(qa9 HT.o.2).1 _ _ (qa4 (hcell 9 _ (by rw[hr];rfl))) |>.trans (hcell 9 _ (by rw[hr];rfl));have e10:cl wr b (o+j*12+10) (iv p.tgt.cls):=(qa9 HT.o.2).1 _ _ (qa4 (hcell 10 _ (by rw[hr];rfl))) |>.trans (hcell 10 _ (by rw[hr];rfl));have e11:cl wr b (o+j*12+11) (.bool p.tgt.weak):=(qa9 HT.o.2).1 _ _ (qa4 (hcell 11 _ (by rw[hr];rfl))) |>.trans (hcell 11 _ (by rw[hr];rfl));have hjc:j < c4:=by omega
              have kc:=(show Calls Tryz.prog _ _ wr _ from RWa_any p)
              cases hv:waV p with
              | false =>
               rw[hv] at kc;have HV:=lh hv;clear hv
               go_wp2_with fail
               refine kc.mono ?_;rintro e w2 ⟨rfl,hb2⟩;have HC2:=lh (HT.o.2.trans (hb2.mono HT.o.2.size));have z2:=(HKm.o.below HC2.o HKm.o.lt).cell 7;simp only[List.getElem?_toArray,List.getElem?_cons_zero,List.getElem?_cons_succ] at z2;clear zx;clear kc hb2 hp hcell hr e0 e1 e2 e3 e4 e5 e6 e7 e8 e9 e10 e11;have HQ:Hid (x.watches.all waV=false):=lh (by rw[List.all_eq_false];exact⟨p,List.mem_of_getElem? HP.o,by simp[HV.o]⟩)
               go_wp2_with fail
               go_ret;refine⟨cgb ?_,HBm.o.trans (HC2.o.mono HBm.o.size)⟩;exact absurd HQ.o (by rw[HBE.o.2];simp)
              | true =>
               rw[hv] at kc;have HV:=lh hv;clear hv
               go_wp2_with fail
               refine kc.mono ?_;rintro e w2 ⟨rfl,hb2⟩;have HC2:=lh (HT.o.2.trans (hb2.mono HT.o.2.size));have z2:=(HKm.o.below HC2.o HKm.o.lt).cell 7;simp only[List.getElem?_toArray,List.getElem?_cons_zero,List.getElem?_cons_succ] at z2;clear zx;clear kc hb2 hp hcell hr e0 e1 e2 e3 e4 e5 e6 e7 e8 e9 e10 e11;have HQ:Hid (waV p=true):=lh (by simp[HV.o])
               go_wp2_with fail
               go_roundw
               case rel=>exact⟨j+1,by go_num,hlt,by rw[List.take_add_one,HP.o,List.all_append,HT.o.1];simp[HQ.o],HC2.o⟩
               case measure=>simp[intOf];omega
             ·obtain rfl:j=x.watches.length:=by omega
              have HE:Hid (x.watches.all waV=true):=lh (by have:=HT.o.1;rw[List.take_length] at this;exact this);clear hlt hj
              go_wp2_with fail
              go_ret;refine⟨cgb ?_,HBm.o.trans (HT.o.2.mono HBm.o.size)⟩;rw[HR.o,pcV_0 H0.o K0.o]
              simp[qn8,lmV,HE3.o,HE.o,Int.not_lt.1 (of_decide_eq_false H1.o),Int.not_lt.1 (of_decide_eq_false H2.o),Int.not_lt.1 (of_decide_eq_false H3.o),H4.o,bare_yes H5.o,Int.not_lt.1 (of_decide_eq_false H6.o),Int.not_lt.1 (of_decide_eq_false H7.o)]
      | false =>
       have kc4:=qk3 L21.o;rw[h4] at kc4;have H4:=lh h4;clear h4
       go_wp2_with fail
       refine kc4.mono ?_;rintro e w2 ⟨rfl,hb2⟩;have HB2:=lh (HB1.o.trans (hb2.mono HB1.o.size));clear hb2 kc4 ba0 ba1 ba2 ba3 ba4 ba5 ba6 ba7
       go_wp2_with fail
       go_ret;refine⟨cgb ?_,HB2.o⟩;rw[HR.o,pcV_0 H0.o K0.o]
       simp[qn8,lmV,Int.not_lt.1 (of_decide_eq_false H1.o),Int.not_lt.1 (of_decide_eq_false H2.o),Int.not_lt.1 (of_decide_eq_false H3.o),H4.o]
  by_cases hk1:x.kind=1
  ·have K1:=lh hk1;have e0:(x.kind == 0)=false:=by simp[hk1]
   have f0:(x.kind != 0)=true:=by simp[hk1]
   have e1:(x.kind == 1)=true:=by simp[hk1]
   have f1:(x.kind != 1)=false:=by simp[hk1]
   have e2:(x.kind == 2)=false:=by simp[hk1]
   have f2:(x.kind != 2)=true:=by simp[hk1]
   clear hk1 hk2 hk0
   cases h1:decide (x.cls < 1) with
   | true =>
    have q1:decide (x.cls < 1)=true:=h1;have H1:=lh h1;clear h1
    go_wp2_with fail
    go_ret;refine⟨cgb ?_,HB1.o⟩;rw[HR.o,pcV_1 H0.o K1.o]
    simp[qn8,lmV,Int.not_le.2 (of_decide_eq_true H1.o)]
   | false =>
    have q1:decide (x.cls < 1)=false:=h1;have H1:=lh h1;clear h1
    cases h2:decide (60 < x.cls) with
    | true =>
     have q2:decide (60 < x.cls)=true:=h2;have H2:=lh h2;clear h2
     go_wp2_with fail
     go_ret;refine⟨cgb ?_,HB1.o⟩;rw[HR.o,pcV_1 H0.o K1.o]
     simp[qn8,lmV,Int.not_lt.1 (of_decide_eq_false H1.o),Int.not_le.2 (of_decide_eq_true H2.o)]
    | false =>
     have q2:decide (60 < x.cls)=false:=h2;have H2:=lh h2;clear h2
     cases h3:decide ((30:Int) < (x.fields.length:Int)) with
     | true =>
      have q3:decide ((30:Int) < (x.fields.length:Int))=true:=h3;have H3:=lh h3;clear h3
      go_wp2_with fail
      go_ret;refine⟨cgb ?_,HB1.o⟩;rw[HR.o,pcV_1 H0.o K1.o]
      simp[qn8,lmV,Int.not_lt.1 (of_decide_eq_false H1.o),Int.not_lt.1 (of_decide_eq_false H2.o),Int.not_le.2 (of_decide_eq_true H3.o)]
     | false =>
      have q3:decide ((30:Int) < (x.fields.length:Int))=false:=h3;have H3:=lh h3;clear h3
      cases h4:x.fields.all plV with
      | true =>
       have kc4:=qk3 L21.o;rw[h4] at kc4;have H4:=lh h4;clear h4
       go_wp2_with fail
       refine kc4.mono ?_;rintro e w2 ⟨rfl,hb2⟩;have HB2:=lh (HB1.o.trans (hb2.mono HB1.o.size));have HK2:=lh (HK1.o.below hb2 HK1.o.lt);have L22:=lh (LsI.below L21.o (qa1 rfC) (qa0 rfC) hb2);have L32:=lh (LsI.below L31.o (qg1) (ltR_rk) hb2);have L42:=lh (LsI.below L41.o (qa1 waC) (qa0 waC) hb2);clear hb2 kc4 ba0 ba1 ba2 ba3 ba4 ba5 ba6 ba7;have ca0:cl w2 g 0 (uv x.number):=HK2.o.cell 0;have ca1:cl w2 g 1 (iv x.idm):=HK2.o.cell 1;have ca2:cl w2 g 2 (iv x.ids):=HK2.o.cell 2;have ca3:cl w2 g 3 (iv x.kind):=HK2.o.cell 3;have ca4:cl w2 g 4 (iv x.cls):=HK2.o.cell 4;have ca5:cl w2 g 5 (.slice A2 x.fields.length c2):=HK2.o.cell 5;have ca6:cl w2 g 6 (.slice A3 x.mail.length c3):=HK2.o.cell 6;have ca7:cl w2 g 7 (.slice A4 x.watches.length c4):=HK2.o.cell 7
       cases h5:decide ((1024:Int) < (x.mail.length:Int)) with
       | true =>
        have q5:decide ((1024:Int) < (x.mail.length:Int))=true:=h5;have H5:=lh h5;clear h5
        go_wp2_with fail
        go_ret;refine⟨cgb ?_,HB2.o⟩;rw[HR.o,pcV_1 H0.o K1.o]
        simp[qn8,lmV,Int.not_lt.1 (of_decide_eq_false H1.o),Int.not_lt.1 (of_decide_eq_false H2.o),Int.not_lt.1 (of_decide_eq_false H3.o),H4.o,Int.not_le.2 (of_decide_eq_true H5.o)]
       | false =>
        have q5:decide ((1024:Int) < (x.mail.length:Int))=false:=h5;have H5:=lh h5;clear h5
        cases h6:decide ((1024:Int) < (x.watches.length:Int)) with
        | true =>
         have q6:decide ((1024:Int) < (x.watches.length:Int))=true:=h6;have H6:=lh h6;clear h6
         go_wp2_with fail
         go_ret;refine⟨cgb ?_,HB2.o⟩;rw[HR.o,pcV_1 H0.o K1.o]
         simp[qn8,lmV,Int.not_lt.1 (of_decide_eq_false H1.o),Int.not_lt.1 (of_decide_eq_false H2.o),Int.not_lt.1 (of_decide_eq_false H3.o),H4.o,Int.not_lt.1 (of_decide_eq_false H5.o),Int.not_le.2 (of_decide_eq_true H6.o)]
        | false =>
         have q6:decide ((1024:Int) < (x.watches.length:Int))=false:=h6;have H6:=lh h6;clear h6
         go_wp2_with fail
         clear ca0 ca1 ca2 ca3 ca4 ca5 ca6 ca7
         go_loopw [3] (fun ix wr=>∃ j:Nat,ix=iv (j:Int)∧j≤x.mail.length∧(x.mail.take j).all ltV=true∧bw w2 wr) (fun ix _=>x.mail.length - (intOf ix).toNat)
         case atStart=>exact⟨0,rfl,Nat.zero_le _,rfl,Below.refl _ _⟩
         case round =>
          obtain⟨j,rfl,hj,ht,hbl⟩:=hrel;have HT:=lh (And.intro ht hbl);have zx:=(HK2.o.below hbl HK2.o.lt).cell 6;simp only[List.getElem?_toArray,List.getElem?_cons_zero,List.getElem?_cons_succ] at zx;clear ht hbl
          by_cases hlt:j < x.mail.length
          ·obtain⟨p,hp⟩:∃ p,x.mail[j]?=some p:=⟨_,List.getElem?_eq_getElem hlt⟩
           obtain⟨b,o,r,hA,_,hr,hcell⟩:=L32.o.get hp;subst hA;have HP:=lh hp;obtain⟨Ap,cp,hr,hlp⟩:=hr;have HLP:=lh (LsI.below (show LsI (qa6 rfC) 26 8 _ Ap cp p.args from hlp) (qa1 _) (qa0 _) HT.o.2);clear hlp;have e0:cl wr b (o+j*4) (iv p.idm):=(qa9 HT.o.2).1 _ _ (qa4 (hcell 0 _ (by rw[hr];rfl))) |>.trans (hcell 0 _ (by rw[hr];rfl));have e1:cl wr b (o+j*4+1) (iv p.ids):=(qa9 HT.o.2).1 _ _ (qa4 (hcell 1 _ (by rw[hr];rfl))) |>.trans (hcell 1 _ (by rw[hr];rfl));have e2:cl wr b (o+j*4+2) (.string p.meth):=(qa9 HT.o.2).1 _ _ (qa4 (hcell 2 _ (by rw[hr];rfl))) |>.trans (hcell 2 _ (by rw[hr];rfl));have e3:cl wr b (o+j*4+3) (.slice Ap p.args.length cp):=(qa9 HT.o.2).1 _ _ (qa4 (hcell 3 _ (by rw[hr];rfl))) |>.trans (hcell 3 _ (by rw[hr];rfl));have hjc:j < c3:=by omega
           have kc:=(show Calls Tryz.prog _ _ wr _ from RLt_any p HLP.o)
           cases hv:ltV p with
           | false =>
            rw[hv] at kc;have HV:=lh hv;clear hv
            go_wp2_with fail
            refine kc.mono ?_;rintro e w2 ⟨rfl,hb2⟩;have HC2:=lh (HT.o.2.trans (hb2.mono HT.o.2.size));have z2:=(HK2.o.below HC2.o HK2.o.lt).cell 6;simp only[List.getElem?_toArray,List.getElem?_cons_zero,List.getElem?_cons_succ] at z2;clear zx;clear kc hb2 hp hcell hr e0 e1 e2 e3;have HQ:Hid (x.mail.all ltV=false):=lh (by rw[List.all_eq_false];exact⟨p,List.mem_of_getElem? HP.o,by simp[HV.o]⟩)
            go_wp2_with fail
            go_ret;refine⟨cgb ?_,HB2.o.trans (HC2.o.mono HB2.o.size)⟩;rw[HR.o,pcV_1 H0.o K1.o]
            simp[qn8,lmV,HQ.o]
           | true =>
            rw[hv] at kc;have HV:=lh hv;clear hv
            go_wp2_with fail
            refine kc.mono ?_;rintro e w2 ⟨rfl,hb2⟩;have HC2:=lh (HT.o.2.trans (hb2.mono HT.o.2.size));have z2:=(HK2.o.below HC2.o HK2.o.lt).cell 6;simp only[List.getElem?_toArray,List.getElem?_cons_zero,List.getElem?_cons_succ] at z2;clear zx;clear kc hb2 hp hcell hr e0 e1 e2 e3;have HQ:Hid (ltV p=true):=lh (by simp[HV.o])
            go_wp2_with fail
            go_roundw
            case rel=>exact⟨j+1,by go_num,hlt,by rw[List.take_add_one,HP.o,List.all_append,HT.o.1];simp[HQ.o],HC2.o⟩
            case measure=>simp[intOf];omega
          ·obtain rfl:j=x.mail.length:=by omega
           have HE:Hid (x.mail.all ltV=true):=lh (by have:=HT.o.1;rw[List.take_length] at this;exact this);clear hlt hj
           obtain⟨wm,rfl⟩:∃ wm:World,wm=wr:=⟨_,rfl⟩
           have HBm:=lh (HB2.o.trans (HT.o.2.mono HB2.o.size));have HKm:=lh (HK2.o.below HT.o.2 HK2.o.lt);have L4m:=lh (LsI.below L42.o (qa1 waC) (qa0 waC) HT.o.2);have HE3:=HE;have vx:=HKm.o.cell 7;simp only[List.getElem?_toArray,List.getElem?_cons_zero,List.getElem?_cons_succ] at vx
           go_wp2_with fail
           clear vx zx
           go_loopw [4] (fun ix wr=>∃ j:Nat,ix=iv (j:Int)∧j≤x.watches.length∧(x.watches.take j).all waV=true∧bw wm wr) (fun ix _=>x.watches.length - (intOf ix).toNat)
           case atStart=>exact⟨0,rfl,Nat.zero_le _,rfl,Below.refl _ _⟩
           case round =>
            obtain⟨j,rfl,hj,ht,hbl⟩:=hrel;have HT:=lh (And.intro ht hbl);have zx:=(HKm.o.below hbl HKm.o.lt).cell 7;simp only[List.getElem?_toArray,List.getElem?_cons_zero,List.getElem?_cons_succ] at zx;clear ht hbl
            by_cases hlt:j < x.watches.length
            ·obtain⟨p,hp⟩:∃ p,x.watches[j]?=some p:=⟨_,List.getElem?_eq_getElem hlt⟩
             obtain⟨b,o,r,hA,_,hr,hcell⟩:=L4m.o.get hp;subst hA;have HP:=lh hp;have e0:cl wr b (o+j*12) (iv p.idm):=(qa9 HT.o.2).1 _ _ (qa4 (hcell 0 _ (by rw[hr];rfl))) |>.trans (hcell 0 _ (by rw[hr];rfl));have e1:cl wr b (o+j*12+1) (iv p.ids):=(qa9 HT.o.2).1 _ _ (qa4 (hcell 1 _ (by rw[hr];rfl))) |>.trans (hcell 1 _ (by rw[hr];rfl));have e2:cl wr b (o+j*12+2) (.string p.meth):=(qa9 HT.o.2).1 _ _ (qa4 (hcell 2 _ (by rw[hr];rfl))) |>.trans (hcell 2 _ (by rw[hr];rfl));have e3:cl wr b (o+j*12+3) (iv p.key):=(qa9 HT.o.2).1 _ _ (qa4 (hcell 3 _ (by rw[hr];rfl))) |>.trans (hcell 3 _ (by rw[hr];rfl));have e4:cl wr b (o+j*12+4) (iv p.tgt.kind):=(qa9 HT.o.2).1 _ _ (qa4 (hcell 4 _ (by rw[hr];rfl))) |>.trans (hcell 4 _ (by rw[hr];rfl));have e5:cl wr b (o+j*12+5) (iv p.tgt.int):=(qa9 HT.o.2).1 _ _ (qa4 (hcell 5 _ (by rw[hr];rfl))) |>.trans (hcell 5 _ (by rw[hr];rfl));have e6:cl wr b (o+j*12+6) (iv p.tgt.owner):=(qa9 HT.o.2).1 _ _ (qa4 (hcell 6 _ (by rw[hr];rfl))) |>.trans (hcell 6 _ (by rw[hr];rfl));have e7:cl wr b (o+j*12+7) (uv p.tgt.number):=(qa9 HT.o.2).1 _ _ (qa4 (hcell 7 _ (by rw[hr];rfl))) |>.trans (hcell 7 _ (by rw[hr];rfl));have e8:cl wr b (o+j*12+8) (iv p.tgt.idm):=(qa9 HT.o.2).1 _ _ (qa4 (hcell 8 _ (by rw[hr];rfl))) |>.trans (hcell 8 _ (by rw[hr];rfl));have e9:cl wr b (o+j*12+9) (iv p.tgt.ids):=(qa9 HT.o.2).1 _ _ (qa4 (hcell 9 _ (by rw[hr];rfl))) |>.trans (hcell 9 _ (by rw[hr];rfl));have e10:cl wr b (o+j*12+10) (iv p.tgt.cls):=(qa9 HT.o.2).1 _ _ (qa4 (hcell 10 _ (by rw[hr];rfl))) |>.trans (hcell 10 _ (by rw[hr];rfl));have e11:cl wr b (o+j*12+11) (.bool p.tgt.weak):=(qa9 HT.o.2).1 _ _ (qa4 (hcell 11 _ (by rw[hr];rfl))) |>.trans (hcell 11 _ (by rw[hr];rfl));have hjc:j < c4:=by omega
             have kc:=(show Calls Tryz.prog _ _ wr _ from RWa_any p)
             cases hv:waV p with
             | false =>
              rw[hv] at kc;have HV:=lh hv;clear hv
              go_wp2_with fail
              refine kc.mono ?_;rintro e w2 ⟨rfl,hb2⟩;have HC2:=lh (HT.o.2.trans (hb2.mono HT.o.2.size));have z2:=(HKm.o.below HC2.o HKm.o.lt).cell 7;simp only[List.getElem?_toArray,List.getElem?_cons_zero,List.getElem?_cons_succ] at z2;clear zx;clear kc hb2 hp hcell hr e0 e1 e2 e3 e4 e5 e6 e7 e8 e9 e10 e11;have HQ:Hid (x.watches.all waV=false):=lh (by rw[List.all_eq_false];exact⟨p,List.mem_of_getElem? HP.o,by simp[HV.o]⟩)
              go_wp2_with fail
              go_ret;refine⟨cgb ?_,HBm.o.trans (HC2.o.mono HBm.o.size)⟩;rw[HR.o,pcV_1 H0.o K1.o]
              simp[qn8,lmV,HQ.o]
             | true =>
              rw[hv] at kc;have HV:=lh hv;clear hv
              go_wp2_with fail
              refine kc.mono ?_;rintro e w2 ⟨rfl,hb2⟩;have HC2:=lh (HT.o.2.trans (hb2.mono HT.o.2.size));have z2:=(HKm.o.below HC2.o HKm.o.lt).cell 7;simp only[List.getElem?_toArray,List.getElem?_cons_zero,List.getElem?_cons_succ] at z2;clear zx;clear kc hb2 hp hcell hr e0 e1 e2 e3 e4 e5 e6 e7 e8 e9 e10 e11;have HQ:Hid (waV p=true):=lh (by simp[HV.o])
              go_wp2_with fail
              go_roundw
              case rel=>exact⟨j+1,by go_num,hlt,by rw[List.take_add_one,HP.o,List.all_append,HT.o.1];simp[HQ.o],HC2.o⟩
              case measure=>simp[intOf];omega
            ·obtain rfl:j=x.watches.length:=by omega
             have HE:Hid (x.watches.all waV=true):=lh (by have:=HT.o.1;rw[List.take_length] at this;exact this);clear hlt hj
             go_wp2_with fail
             go_ret;refine⟨cgb ?_,HBm.o.trans (HT.o.2.mono HBm.o.size)⟩;rw[HR.o,pcV_1 H0.o K1.o]
             simp[qn8,lmV,HE3.o,HE.o,Int.not_lt.1 (of_decide_eq_false H1.o),Int.not_lt.1 (of_decide_eq_false H2.o),Int.not_lt.1 (of_decide_eq_false H3.o),H4.o,Int.not_lt.1 (of_decide_eq_false H5.o),Int.not_lt.1 (of_decide_eq_false H6.o)]
      | false =>
       have kc4:=qk3 L21.o;rw[h4] at kc4;have H4:=lh h4;clear h4
       go_wp2_with fail
       refine kc4.mono ?_;rintro e w2 ⟨rfl,hb2⟩;have HB2:=lh (HB1.o.trans (hb2.mono HB1.o.size));clear hb2 kc4 ba0 ba1 ba2 ba3 ba4 ba5 ba6 ba7
       go_wp2_with fail
       go_ret;refine⟨cgb ?_,HB2.o⟩;rw[HR.o,pcV_1 H0.o K1.o]
       simp[qn8,lmV,Int.not_lt.1 (of_decide_eq_false H1.o),Int.not_lt.1 (of_decide_eq_false H2.o),Int.not_lt.1 (of_decide_eq_false H3.o),H4.o]
  have e0:(x.kind == 0)=false:=by simp[hk0]
  have e1:(x.kind == 1)=false:=by simp[hk1]
  have e2:(x.kind == 2)=false:=by simp[hk2]
  have f0:(x.kind != 0)=true:=by simp[hk0]
  have f1:(x.kind != 1)=true:=by simp[hk1]
  have HN:=lh (pcV_n hk0 hk1 hk2);clear hk0 hk1 hk2
  go_wp2_with fail
  go_ret;refine⟨cgb ?_,HB1.o⟩;rw[HR.o,HN.o]
 | false =>
  have kc0:=qo8 W x.idm x.ids;rw[h0] at kc0;have H0:=lh h0;clear h0
  go_wp2_with fail
  refine kc0.mono ?_;rintro e w1 ⟨rfl,hb1⟩;have HB1:=lh (HB0.o.trans (hb1.mono HB0.o.size));clear hb1 kc0 aa0 aa1 aa2 aa3 aa4 aa5 aa6 aa7
  go_wp2_with fail
  go_ret;refine⟨cgb ?_,HB1.o⟩;rw[HR.o,pcV_id H0.o]
end
section
open Go.RowKit
attribute [local go_sem] Oper.semAt_some
def OnlyR (k:Nat) (x:Ms) (v:Value) (w:World):Prop:=∃ r:List Value,v=.agg r.toArray∧MsI w (qi6 k x) r
theorem OnlyR.bl (k:Nat) (x:Ms):∀ v w w',OnlyR k x v w→bw w w'→OnlyR k x v w':=fun v w w' ⟨r,h1,h2⟩ hb=>⟨r,h1,h2.below hb⟩
theorem qo9 {R b:Bool} {w w':World} (h:R=b) (hb:bw w w'):qe7 w R (.returned (.bool b)) w':=⟨by rw[h],hb⟩
theorem rv_in {w:World} {x:Ms} {r:List Value} (h:MsI w x r) {k:Nat} (hk:k < 18) (hxk:x.kind=k):Calls Tryz.prog 36 #[.agg r.toArray] w (qe7 w (okV k x && decide (x=qi6 k x))):=by
 have hsz:r.toArray.toList.length=39:=h.len;have hI:=h;obtain⟨A1,c1,A2,c2,A3,c3,A4,c4,A5,c5,A6,c6,A7,c7,A8,c8,hr,h1,h2,h3,h4,h5,h6,h7,h8⟩:=h
 obtain⟨M,hrM⟩:∃ M,M=r.toArray:=⟨_,rfl⟩
 have hM:=hrM;rw[← hrM] at hsz ⊢;rw[hr] at hM;clear hr
 obtain⟨R,hR⟩:∃ R,R=(okV k x && decide (x=qi6 k x)):=⟨_,rfl⟩
 rw[← hR];have HR:=lh hR;have hM0:M[0]?=some (iv (k:Int)):=by rw[hM];exact congrArg (fun z=>some (iv z)) hxk
 obtain⟨W,hW⟩:∃ W,W=w.alloc (.cells M 42):=⟨_,rfl⟩
 obtain⟨g,hg⟩:∃ g,g=w.heap.size:=⟨_,rfl⟩
 have hb0:bw w W:=by rw[hW];exact qa2 _ _
 have hk0:Bk W g 42 M:=by rw[hW,hg];exact Bk.new _ _ _
 have a0:cl W g 0 (iv (k:Int)):=(hk0.cell 0).trans hM0
 have CO:Hid (∀ V,bw W V→Calls Tryz.prog 57 #[.agg M] V fun e w'=>bw V w'∧∃ r',e=.returned (.agg r'.toArray)∧MsI w' (qi6 k x) r'):=lh fun V hV=>by
  rw[hrM];exact ROnly_any ((hI.below hb0).below hV) hk hxk
 have HB0:=lh hb0;have HK0:=lh hk0;have HSZ:=lh hsz;have HM:=lh hM;have HM0:=lh hM0;have HI:=lh hI;have HRM:=lh hrM;have H1:=lh (And.intro h1 (And.intro h2 (And.intro h3 (And.intro h4 (And.intro h5 (And.intro h6 (And.intro h7 h8)))))));have n0:decide ((k:Int) < 0)=false:=decide_eq_false (by omega);have n1:decide ((17:Int) < (k:Int))=false:=decide_eq_false (by omega);have n2:decide (17 < k)=false:=decide_eq_false (by omega);clear hb0 hk0 hM hM0 hsz hrM hI h1 h2 h3 h4 h5 h6 h7 h8 hR hxk
 go_enter Tryz.func36,Tryz.ntmps36
 go_upto_region 1 with fail
 rw[← hW,← hg];clear hW hg a0
 obtain⟨q,hq⟩:∃ q,q=decide (x=qi6 k x):=⟨_,rfl⟩
 have HQ:=lh hq;clear hq;refine ql5 14 (fun i=>([[],[0],[1],[2],[3],[3,4],[3,5],[3,6],[7],[8],[8],[8,10],[8,9,11],[8,12]]:List (List Nat)).getD i []) (EL [Ent.val (pq g 0),Ent.val (iv (k:Int)),Ent.val (bf),Ent.val (bf),Ent.val (pq g 0),Ent.val (iv (k:Int)),Ent.val (bf),Ent.val (bf),Ent.val (bf),Ent.val (.agg M),Ent.val (.agg M),Ent.of (OnlyR k x) (OnlyR.bl _ _),Ent.val (.bool q),Ent.val (.bool (!q))]) (by kernel_rfl) (by kernel_rfl) (by kernel_rfl) (by rfl) ?_ ?_ ?_
 ·intro i hi o ho g b hgb vs v w2 hR;rcases (show i=0 ∨ i=1 ∨ i=2 ∨ i=3 ∨ i=4 ∨ i=5 ∨ i=6 ∨ i=7 ∨ i=8 ∨ i=9 ∨ i=10 ∨ i=11 ∨ i=12 ∨ i=13 by omega) with rfl | rfl | rfl | rfl | rfl | rfl | rfl | rfl | rfl | rfl | rfl | rfl | rfl | rfl <;> cases ho <;> first | (cases hgb;exact hR) | cases hgb
 ·intro i hi o ho vs w2 hb1 hgr;rcases (show i=0 ∨ i=1 ∨ i=2 ∨ i=3 ∨ i=4 ∨ i=5 ∨ i=6 ∨ i=7 ∨ i=8 ∨ i=9 ∨ i=10 ∨ i=11 ∨ i=12 ∨ i=13 by omega) with rfl | rfl | rfl | rfl | rfl | rfl | rfl | rfl | rfl | rfl | rfl | rfl | rfl | rfl <;> cases ho
  ·clear hgr;change Made _ (qf6 _ _ _) (Sem.run _ (execOp (Act.eval (frm _ _ _ [])) _) _);simp only[frm];go_simp;exact qb5 rfl
  ·have h0:vs 0=_:=hgr 0 (by decide);clear hgr;change Made _ (qf6 _ _ _) (Sem.run _ (execOp (Act.eval (Act.put (frm _ _ _ []) (some 3) (vs 0))) _) _);simp only[frm,h0];have c0:cl w2 g 0 (iv (k:Int)):=((HK0.o.below hb1 HK0.o.lt).cell 0).trans HM0.o;go_simp;exact qb5 rfl
  ·have h1:vs 1=_:=hgr 1 (by decide);clear hgr;change Made _ (qf6 _ _ _) (Sem.run _ (execOp (Act.eval (Act.put (frm _ _ _ []) (some 4) (vs 1))) _) _);simp only[frm,h1];go_simp;exact qb5 rfl
  ·have h2:vs 2=_:=hgr 2 (by decide);clear hgr;change Made _ (qf6 _ _ _) (Sem.run _ (execOp (Act.eval (Act.put (frm _ _ _ []) (some 5) (vs 2))) _) _);simp only[frm,h2];go_simp;exact qb5 rfl
  ·have h3:vs 3=_:=hgr 3 (by decide);clear hgr;change Made _ (qf6 _ _ _) (Sem.run _ (execOp (Act.eval (Act.put (frm _ _ _ []) (some 6) (vs 3))) _) _);simp only[frm,h3];go_simp;exact qb5 rfl
  ·have h3:vs 3=_:=hgr 3 (by decide);have h4:vs 4=_:=hgr 4 (by decide);clear hgr;change Made _ (qf6 _ _ _) (Sem.run _ (execOp (Act.eval (Act.put (Act.put (frm _ _ _ []) (some 7) (vs 4)) (some 6) (vs 3))) _) _);simp only[frm,h3,h4];have c0:cl w2 g 0 (iv (k:Int)):=((HK0.o.below hb1 HK0.o.lt).cell 0).trans HM0.o;go_simp;exact qb5 rfl
  ·have h3:vs 3=_:=hgr 3 (by decide);have h5:vs 5=_:=hgr 5 (by decide);clear hgr;change Made _ (qf6 _ _ _) (Sem.run _ (execOp (Act.eval (Act.put (Act.put (frm _ _ _ []) (some 8) (vs 5)) (some 6) (vs 3))) _) _);simp only[frm,h3,h5];go_simp;exact qb5 rfl
  ·have h3:vs 3=_:=hgr 3 (by decide);have h6:vs 6=_:=hgr 6 (by decide);clear hgr;change Made _ (qf6 _ _ _) (Sem.run _ (execOp (Act.eval (Act.put (Act.put (frm _ _ _ []) (some 9) (vs 6)) (some 6) (vs 3))) _) _);simp only[frm,h3,h6];go_simp;exact qb5 rfl
  ·have h7:vs 7=_:=hgr 7 (by decide);clear hgr;change Made _ (qf6 _ _ _) (Sem.run _ (execOp (Act.eval (Act.put (frm _ _ _ []) (some 10) (vs 7))) _) _);simp only[frm,h7];go_simp;exact qb5 rfl
  ·have h8:vs 8=_:=hgr 8 (by decide);clear hgr;change Made _ (qf6 _ _ _) (Sem.run _ (execOp (Act.eval (Act.put (frm _ _ _ []) (some 11) (vs 8))) _) _);simp only[frm,h8];exact qk1 (P:=Tryz.prog) (ty:=42) (b:=g) (o:=0) (A:=M) (by rfl) (by rfl) (HK0.o.below hb1 HK0.o.lt).rng rfl rfl (by rw[HSZ.o];rfl)
  ·have h8:vs 8=_:=hgr 8 (by decide);clear hgr;change Made _ (qf6 _ _ _) (Sem.run _ (execOp (Act.eval (Act.put (frm _ _ _ []) (some 11) (vs 8))) _) _);simp only[frm,h8];exact qk1 (P:=Tryz.prog) (ty:=42) (b:=g) (o:=0) (A:=M) (by rfl) (by rfl) (HK0.o.below hb1 HK0.o.lt).rng rfl rfl (by rw[HSZ.o];rfl)
  ·have h8:vs 8=_:=hgr 8 (by decide);have h10:vs 10=_:=hgr 10 (by decide);clear hgr;change Made _ (qf6 _ _ _) (Sem.run _ (execOp (Act.eval (Act.put (Act.put (frm _ _ _ []) (some 13) (vs 10)) (some 11) (vs 8))) _) _);simp only[frm,h8,h10];have cM:=CO.o w2 hb1;go_simp
   exact qv5 (hT:=OnlyR.bl _ _) (ob:=fun _=>none) cM fun e w2 ⟨hb,r1,he,hm⟩=>⟨_,he,⟨r1,rfl,hm⟩,hb,(fun k hk=>nomatch hk)⟩
  ·have h8:vs 8=_:=hgr 8 (by decide);have h9:vs 9=_:=hgr 9 (by decide);obtain⟨r11,h11,m11⟩:=hgr 11 (by decide);clear hgr;change Made _ (qf6 _ _ _) (Sem.run _ (execOp (Act.eval (Act.put (Act.put (Act.put (frm _ _ _ []) (some 14) (vs 11)) (some 12) (vs 9)) (some 11) (vs 8))) _) _);simp only[frm,h8,h9,h11];have cM:=Same_any (HI.o.below (HB0.o.trans (hb1.mono HB0.o.size))) m11;rw[← HRM.o,← HQ.o] at cM;go_simp;exact qc3 cM
  ·have h8:vs 8=_:=hgr 8 (by decide);have h12:vs 12=_:=hgr 12 (by decide);clear hgr;change Made _ (qf6 _ _ _) (Sem.run _ (execOp (Act.eval (Act.put (Act.put (frm _ _ _ []) (some 15) (vs 12)) (some 11) (vs 8))) _) _);simp only[frm,h8,h12];go_simp;exact qb5 rfl
 intro vs w2 hb1 hall hap;have h8:vs 8=_:=(hall 8 (by omega)).1;have h13:vs 13=_:=(hall 13 (by omega)).1;clear hall hap;change wpList _ _ _ [_] (Act.put (Act.put (Act.put (Act.put (Act.put (Act.put (Act.put (Act.put (Act.put (Act.put (Act.put (Act.put (Act.put (Act.put (frm _ _ _ []) (some 16) (vs 13)) (some 15) (vs 12)) (some 14) (vs 11)) (some 13) (vs 10)) (some 12) (vs 9)) (some 11) (vs 8)) (some 10) (vs 7)) (some 9) (vs 6)) (some 8) (vs 5)) (some 7) (vs 4)) (some 6) (vs 3)) (some 5) (vs 2)) (some 4) (vs 1)) (some 3) (vs 0)) _;simp only[frm,h8,h13];have HB2:=lh (HB0.o.trans (hb1.mono HB0.o.size));have HK2:=lh (HK0.o.below hb1 HK0.o.lt);clear hb1 n0 n1 n2
 cases hq:q with
 | false =>
  rw[hq] at HQ
  go_wp2_with fail
  go_ret;exact qo9 (by rw[HR.o,← HQ.o,Bool.and_false]) HB2.o
 | true =>
  rw[hq] at HQ;clear hq;have a0:cl w2 g 0 (iv (k:Int)):=(HK2.o.cell 0).trans HM0.o;have HR2:Hid (R=okV k x):=lh (by rw[HR.o,← HQ.o,Bool.and_true]);clear HR HQ HB0 HK0 HSZ HM0 HI HRM CO;rcases (show(k=0) ∨ (k=1) ∨ (k=2 ∨ k=3 ∨ k=6) ∨ (k=4 ∨ k=7) ∨ (k=5 ∨ k=15 ∨ k=16) ∨ (k=8) ∨ (k=9) ∨ (k=10) ∨ (k=11 ∨ k=12 ∨ k=13 ∨ k=14) ∨ (k=17) by omega) with hq | hq | hq | hq | hq | hq | hq | hq | hq | hq
  ·subst hq;have f12:cl w2 g 12 (iv x.letter.idm):=(HK2.o.cell 12).trans (by rw[HM.o];rfl);have f13:cl w2 g 13 (iv x.letter.ids):=(HK2.o.cell 13).trans (by rw[HM.o];rfl);have f14:cl w2 g 14 (.string x.letter.meth):=(HK2.o.cell 14).trans (by rw[HM.o];rfl);have f15:cl w2 g 15 (.slice A1 x.letter.args.length c1):=(HK2.o.cell 15).trans (by rw[HM.o];rfl)
   cases h20:ltV x.letter with
   | true =>
    have kc0:=RLt_any x.letter (LsI.below H1.o.1 (qa1 rfC) (qa0 rfC) HB2.o);rw[h20] at kc0;have G0:=lh h20;clear h20
    go_wp2_with fail
    refine kc0.mono ?_;rintro e w3 ⟨rfl,hb3⟩;have HB3:=lh (HB2.o.trans (hb3.mono HB2.o.size));have HK3:=lh (HK2.o.below hb3 HK2.o.lt);clear hb3 kc0 f12 f13 f14 f15 a0
    go_wp2_with fail
    go_ret;exact qo9 (by rw[HR2.o];simp[okV,plV,ok4,ok8,ok9,ql2,ql4,G0.o]) HB3.o
   | false =>
    have kc0:=RLt_any x.letter (LsI.below H1.o.1 (qa1 rfC) (qa0 rfC) HB2.o);rw[h20] at kc0;have G0:=lh h20;clear h20
    go_wp2_with fail
    refine kc0.mono ?_;rintro e w3 ⟨rfl,hb3⟩;have HB3:=lh (HB2.o.trans (hb3.mono HB2.o.size));clear hb3 kc0 f12 f13 f14 f15
    go_wp2_with fail
    go_ret;exact qo9 (by rw[HR2.o];simp[okV,plV,ok4,ok8,ok9,ql2,ql4,G0.o]) HB3.o
  ·subst hq;have f16:cl w2 g 16 (uv x.parcel.number):=(HK2.o.cell 16).trans (by rw[HM.o];rfl);have f17:cl w2 g 17 (iv x.parcel.idm):=(HK2.o.cell 17).trans (by rw[HM.o];rfl);have f18:cl w2 g 18 (iv x.parcel.ids):=(HK2.o.cell 18).trans (by rw[HM.o];rfl);have f19:cl w2 g 19 (iv x.parcel.kind):=(HK2.o.cell 19).trans (by rw[HM.o];rfl);have f20:cl w2 g 20 (iv x.parcel.cls):=(HK2.o.cell 20).trans (by rw[HM.o];rfl);have f21:cl w2 g 21 (.slice A2 x.parcel.fields.length c2):=(HK2.o.cell 21).trans (by rw[HM.o];rfl);have f22:cl w2 g 22 (.slice A3 x.parcel.mail.length c3):=(HK2.o.cell 22).trans (by rw[HM.o];rfl);have f23:cl w2 g 23 (.slice A4 x.parcel.watches.length c4):=(HK2.o.cell 23).trans (by rw[HM.o];rfl)
   cases h20:pcV x.parcel with
   | true =>
    have kc0:=RPc_any x.parcel (LsI.below H1.o.2.1 (qa1 rfC) (qa0 rfC) HB2.o) (LsI.below H1.o.2.2.1 qg1 ltR_rk HB2.o) (LsI.below H1.o.2.2.2.1 (qa1 waC) (qa0 waC) HB2.o);rw[h20] at kc0;have G0:=lh h20;clear h20
    go_wp2_with fail
    refine kc0.mono ?_;rintro e w3 ⟨rfl,hb3⟩;have HB3:=lh (HB2.o.trans (hb3.mono HB2.o.size));have HK3:=lh (HK2.o.below hb3 HK2.o.lt);clear hb3 kc0 f16 f17 f18 f19 f20 f21 f22 f23 a0
    go_wp2_with fail
    go_ret;exact qo9 (by rw[HR2.o];simp[okV,plV,ok4,ok8,ok9,ql2,ql4,G0.o]) HB3.o
   | false =>
    have kc0:=RPc_any x.parcel (LsI.below H1.o.2.1 (qa1 rfC) (qa0 rfC) HB2.o) (LsI.below H1.o.2.2.1 qg1 ltR_rk HB2.o) (LsI.below H1.o.2.2.2.1 (qa1 waC) (qa0 waC) HB2.o);rw[h20] at kc0;have G0:=lh h20;clear h20
    go_wp2_with fail
    refine kc0.mono ?_;rintro e w3 ⟨rfl,hb3⟩;have HB3:=lh (HB2.o.trans (hb3.mono HB2.o.size));clear hb3 kc0 f16 f17 f18 f19 f20 f21 f22 f23
    go_wp2_with fail
    go_ret;exact qo9 (by rw[HR2.o];simp[okV,plV,ok4,ok8,ok9,ql2,ql4,G0.o]) HB3.o
  ·rcases hq with rfl | rfl | rfl
   all_goals
    have f2:cl w2 g 2 (iv x.asker):=(HK2.o.cell 2).trans (by rw[HM.o];rfl)
    cases h20:ql1 x.asker with
    | true =>
     have kc0:=qe8 w2 x.asker;rw[h20] at kc0;have G0:=lh h20;clear h20
     go_wp2_with fail
     refine kc0.mono ?_;rintro e w3 ⟨rfl,hb3⟩;have HB3:=lh (HB2.o.trans (hb3.mono HB2.o.size));have HK3:=lh (HK2.o.below hb3 HK2.o.lt);clear hb3 kc0 f2 a0
     go_wp2_with fail
     go_ret;exact qo9 (by rw[HR2.o];simp[okV,plV,ok4,ok8,ok9,ql2,ql4,G0.o]) HB3.o
    | false =>
     have kc0:=qe8 w2 x.asker;rw[h20] at kc0;have G0:=lh h20;clear h20
     go_wp2_with fail
     refine kc0.mono ?_;rintro e w3 ⟨rfl,hb3⟩;have HB3:=lh (HB2.o.trans (hb3.mono HB2.o.size));clear hb3 kc0 f2
     go_wp2_with fail
     go_ret;exact qo9 (by rw[HR2.o];simp[okV,plV,ok4,ok8,ok9,ql2,ql4,G0.o]) HB3.o
  ·rcases hq with rfl | rfl
   all_goals
    have f4:cl w2 g 4 (iv x.ref.kind):=(HK2.o.cell 4).trans (by rw[HM.o];rfl);have f5:cl w2 g 5 (iv x.ref.int):=(HK2.o.cell 5).trans (by rw[HM.o];rfl);have f6:cl w2 g 6 (iv x.ref.owner):=(HK2.o.cell 6).trans (by rw[HM.o];rfl);have f7:cl w2 g 7 (uv x.ref.number):=(HK2.o.cell 7).trans (by rw[HM.o];rfl);have f8:cl w2 g 8 (iv x.ref.idm):=(HK2.o.cell 8).trans (by rw[HM.o];rfl);have f9:cl w2 g 9 (iv x.ref.ids):=(HK2.o.cell 9).trans (by rw[HM.o];rfl);have f10:cl w2 g 10 (iv x.ref.cls):=(HK2.o.cell 10).trans (by rw[HM.o];rfl);have f11:cl w2 g 11 (.bool x.ref.weak):=(HK2.o.cell 11).trans (by rw[HM.o];rfl)
    cases h20:rfV x.ref with
    | true =>
     have kc0:=qk2 w2 x.ref;rw[h20] at kc0;have G0:=lh h20;clear h20
     go_wp2_with fail
     refine kc0.mono ?_;rintro e w3 ⟨rfl,hb3⟩;have HB3:=lh (HB2.o.trans (hb3.mono HB2.o.size));have HK3:=lh (HK2.o.below hb3 HK2.o.lt);clear hb3 kc0 f4 f5 f6 f7 f8 f9 f10 f11 a0;have f4:cl w3 g 4 (iv x.ref.kind):=(HK3.o.cell 4).trans (by rw[HM.o];rfl);have f5:cl w3 g 5 (iv x.ref.int):=(HK3.o.cell 5).trans (by rw[HM.o];rfl);have f6:cl w3 g 6 (iv x.ref.owner):=(HK3.o.cell 6).trans (by rw[HM.o];rfl);have f7:cl w3 g 7 (uv x.ref.number):=(HK3.o.cell 7).trans (by rw[HM.o];rfl);have f8:cl w3 g 8 (iv x.ref.idm):=(HK3.o.cell 8).trans (by rw[HM.o];rfl);have f9:cl w3 g 9 (iv x.ref.ids):=(HK3.o.cell 9).trans (by rw[HM.o];rfl);have f10:cl w3 g 10 (iv x.ref.cls):=(HK3.o.cell 10).trans (by rw[HM.o];rfl);have f11:cl w3 g 11 (.bool x.ref.weak):=(HK3.o.cell 11).trans (by rw[HM.o];rfl)
     cases h21:x.ref.weak with
     | true =>
      have q1:x.ref.weak=true:=h21;have G1:=lh h21;clear h21
      go_wp2_with fail
      go_ret;exact qo9 (by rw[HR2.o];simp[okV,plV,ok4,ok8,ok9,ql2,ql4,G0.o,G1.o]) HB3.o
     | false =>
      have q1:x.ref.weak=false:=h21;have G1:=lh h21;clear h21
      cases h22:(x.ref.kind == 3) with
      | true =>
       have q2:(x.ref.kind == 3)=true:=h22;have G2:=lh h22;clear h22
       go_wp2_with fail
       go_ret;exact qo9 (by rw[HR2.o];simp[okV,plV,ok4,ok8,ok9,ql2,ql4,G0.o,G1.o,G2.o]) HB3.o
      | false =>
       have q2:(x.ref.kind == 3)=false:=h22;have G2:=lh h22;clear h22
       go_wp2_with fail
       go_ret;exact qo9 (by rw[HR2.o];simp[okV,plV,ok4,ok8,ok9,ql2,ql4,G0.o,G1.o,G2.o]) HB3.o
    | false =>
     have kc0:=qk2 w2 x.ref;rw[h20] at kc0;have G0:=lh h20;clear h20
     go_wp2_with fail
     refine kc0.mono ?_;rintro e w3 ⟨rfl,hb3⟩;have HB3:=lh (HB2.o.trans (hb3.mono HB2.o.size));clear hb3 kc0 f4 f5 f6 f7 f8 f9 f10 f11
     go_wp2_with fail
     go_ret;exact qo9 (by rw[HR2.o];simp[okV,plV,ok4,ok8,ok9,ql2,ql4,G0.o]) HB3.o
  ·rcases hq with rfl | rfl | rfl
   all_goals
    go_wp2_with fail
    go_ret;exact qo9 (by rw[HR2.o];simp[okV,plV,ok4,ok8,ok9,ql2,ql4]) HB2.o
  ·subst hq;have f2:cl w2 g 2 (iv x.asker):=(HK2.o.cell 2).trans (by rw[HM.o];rfl);have f24:cl w2 g 24 (iv x.tm):=(HK2.o.cell 24).trans (by rw[HM.o];rfl);have f25:cl w2 g 25 (iv x.ts):=(HK2.o.cell 25).trans (by rw[HM.o];rfl)
   cases h20:trV x with
   | true =>
    have kc0:=qm1 (w:=w2) x;rw[h20] at kc0;have G0:=lh h20;clear h20
    go_wp2_with fail
    refine kc0.mono ?_;rintro e w3 ⟨rfl,hb3⟩;have HB3:=lh (HB2.o.trans (hb3.mono HB2.o.size));have HK3:=lh (HK2.o.below hb3 HK2.o.lt);clear hb3 kc0 f2 f24 f25 a0;have f2:cl w3 g 2 (iv x.asker):=(HK3.o.cell 2).trans (by rw[HM.o];rfl);have f24:cl w3 g 24 (iv x.tm):=(HK3.o.cell 24).trans (by rw[HM.o];rfl);have f25:cl w3 g 25 (iv x.ts):=(HK3.o.cell 25).trans (by rw[HM.o];rfl)
    cases h21:ql1 x.asker with
    | true =>
     have kc1:=qe8 w3 x.asker;rw[h21] at kc1;have G1:=lh h21;clear h21
     go_wp2_with fail
     refine kc1.mono ?_;rintro e w4 ⟨rfl,hb4⟩;have HB4:=lh (HB3.o.trans (hb4.mono HB3.o.size));have HK4:=lh (HK3.o.below hb4 HK3.o.lt);clear hb4 kc1 f2 f24 f25
     go_wp2_with fail
     go_ret;exact qo9 (by rw[HR2.o];simp[okV,plV,ok4,ok8,ok9,ql2,ql4,G0.o,G1.o]) HB4.o
    | false =>
     have kc1:=qe8 w3 x.asker;rw[h21] at kc1;have G1:=lh h21;clear h21
     go_wp2_with fail
     refine kc1.mono ?_;rintro e w4 ⟨rfl,hb4⟩;have HB4:=lh (HB3.o.trans (hb4.mono HB3.o.size));clear hb4 kc1 f2 f24 f25
     go_wp2_with fail
     go_ret;exact qo9 (by rw[HR2.o];simp[okV,plV,ok4,ok8,ok9,ql2,ql4,G0.o,G1.o]) HB4.o
   | false =>
    have kc0:=qm1 (w:=w2) x;rw[h20] at kc0;have G0:=lh h20;clear h20
    go_wp2_with fail
    refine kc0.mono ?_;rintro e w3 ⟨rfl,hb3⟩;have HB3:=lh (HB2.o.trans (hb3.mono HB2.o.size));clear hb3 kc0 f2 f24 f25
    go_wp2_with fail
    go_ret;exact qo9 (by rw[HR2.o];simp[okV,plV,ok4,ok8,ok9,ql2,ql4,G0.o]) HB3.o
  ·subst hq;have f24:cl w2 g 24 (iv x.tm):=(HK2.o.cell 24).trans (by rw[HM.o];rfl);have f25:cl w2 g 25 (iv x.ts):=(HK2.o.cell 25).trans (by rw[HM.o];rfl);have f26:cl w2 g 26 (iv x.answer.machine):=(HK2.o.cell 26).trans (by rw[HM.o];rfl);have f27:cl w2 g 27 (iv x.answer.owner):=(HK2.o.cell 27).trans (by rw[HM.o];rfl);have f28:cl w2 g 28 (uv x.answer.number):=(HK2.o.cell 28).trans (by rw[HM.o];rfl);have f29:cl w2 g 29 (iv x.answer.epoch):=(HK2.o.cell 29).trans (by rw[HM.o];rfl);have f30:cl w2 g 30 (.bool x.answer.known):=(HK2.o.cell 30).trans (by rw[HM.o];rfl);have f31:cl w2 g 31 (.bool x.answer.rooted):=(HK2.o.cell 31).trans (by rw[HM.o];rfl);have f32:cl w2 g 32 (iv x.answer.last):=(HK2.o.cell 32).trans (by rw[HM.o];rfl);have f33:cl w2 g 33 (.slice A5 x.answer.inset.length c5):=(HK2.o.cell 33).trans (by rw[HM.o];rfl)
   cases h20:trV x with
   | true =>
    have kc0:=qm1 (w:=w2) x;rw[h20] at kc0;have G0:=lh h20;clear h20
    go_wp2_with fail
    refine kc0.mono ?_;rintro e w3 ⟨rfl,hb3⟩;have HB3:=lh (HB2.o.trans (hb3.mono HB2.o.size));have HK3:=lh (HK2.o.below hb3 HK2.o.lt);clear hb3 kc0 f24 f25 f26 f27 f28 f29 f30 f31 f32 f33 a0;have f24:cl w3 g 24 (iv x.tm):=(HK3.o.cell 24).trans (by rw[HM.o];rfl);have f25:cl w3 g 25 (iv x.ts):=(HK3.o.cell 25).trans (by rw[HM.o];rfl);have f26:cl w3 g 26 (iv x.answer.machine):=(HK3.o.cell 26).trans (by rw[HM.o];rfl);have f27:cl w3 g 27 (iv x.answer.owner):=(HK3.o.cell 27).trans (by rw[HM.o];rfl);have f28:cl w3 g 28 (uv x.answer.number):=(HK3.o.cell 28).trans (by rw[HM.o];rfl);have f29:cl w3 g 29 (iv x.answer.epoch):=(HK3.o.cell 29).trans (by rw[HM.o];rfl);have f30:cl w3 g 30 (.bool x.answer.known):=(HK3.o.cell 30).trans (by rw[HM.o];rfl);have f31:cl w3 g 31 (.bool x.answer.rooted):=(HK3.o.cell 31).trans (by rw[HM.o];rfl);have f32:cl w3 g 32 (iv x.answer.last):=(HK3.o.cell 32).trans (by rw[HM.o];rfl);have f33:cl w3 g 33 (.slice A5 x.answer.inset.length c5):=(HK3.o.cell 33).trans (by rw[HM.o];rfl)
    cases h21:anV x.answer with
    | true =>
     have kc1:=RAn_any x.answer (LsI.below H1.o.2.2.2.2.1 (qa1 inC) (qa0 inC) HB3.o);rw[h21] at kc1;have G1:=lh h21;clear h21
     go_wp2_with fail
     refine kc1.mono ?_;rintro e w4 ⟨rfl,hb4⟩;have HB4:=lh (HB3.o.trans (hb4.mono HB3.o.size));have HK4:=lh (HK3.o.below hb4 HK3.o.lt);clear hb4 kc1 f24 f25 f26 f27 f28 f29 f30 f31 f32 f33
     go_wp2_with fail
     go_ret;exact qo9 (by rw[HR2.o];simp[okV,plV,ok4,ok8,ok9,ql2,ql4,G0.o,G1.o]) HB4.o
    | false =>
     have kc1:=RAn_any x.answer (LsI.below H1.o.2.2.2.2.1 (qa1 inC) (qa0 inC) HB3.o);rw[h21] at kc1;have G1:=lh h21;clear h21
     go_wp2_with fail
     refine kc1.mono ?_;rintro e w4 ⟨rfl,hb4⟩;have HB4:=lh (HB3.o.trans (hb4.mono HB3.o.size));clear hb4 kc1 f24 f25 f26 f27 f28 f29 f30 f31 f32 f33
     go_wp2_with fail
     go_ret;exact qo9 (by rw[HR2.o];simp[okV,plV,ok4,ok8,ok9,ql2,ql4,G0.o,G1.o]) HB4.o
   | false =>
    have kc0:=qm1 (w:=w2) x;rw[h20] at kc0;have G0:=lh h20;clear h20
    go_wp2_with fail
    refine kc0.mono ?_;rintro e w3 ⟨rfl,hb3⟩;have HB3:=lh (HB2.o.trans (hb3.mono HB2.o.size));clear hb3 kc0 f24 f25 f26 f27 f28 f29 f30 f31 f32 f33
    go_wp2_with fail
    go_ret;exact qo9 (by rw[HR2.o];simp[okV,plV,ok4,ok8,ok9,ql2,ql4,G0.o]) HB3.o
  ·subst hq;have f24:cl w2 g 24 (iv x.tm):=(HK2.o.cell 24).trans (by rw[HM.o];rfl);have f25:cl w2 g 25 (iv x.ts):=(HK2.o.cell 25).trans (by rw[HM.o];rfl);have f34:cl w2 g 34 (iv x.claim.machine):=(HK2.o.cell 34).trans (by rw[HM.o];rfl);have f35:cl w2 g 35 (iv x.claim.epoch):=(HK2.o.cell 35).trans (by rw[HM.o];rfl);have f36:cl w2 g 36 (.slice A6 x.claim.stubs.length c6):=(HK2.o.cell 36).trans (by rw[HM.o];rfl);have f37:cl w2 g 37 (.slice A7 x.claim.scions.length c7):=(HK2.o.cell 37).trans (by rw[HM.o];rfl);have f38:cl w2 g 38 (.slice A8 x.claim.checks.length c8):=(HK2.o.cell 38).trans (by rw[HM.o];rfl)
   cases h20:trV x with
   | true =>
    have kc0:=qm1 (w:=w2) x;rw[h20] at kc0;have G0:=lh h20;clear h20
    go_wp2_with fail
    refine kc0.mono ?_;rintro e w3 ⟨rfl,hb3⟩;have HB3:=lh (HB2.o.trans (hb3.mono HB2.o.size));have HK3:=lh (HK2.o.below hb3 HK2.o.lt);clear hb3 kc0 f24 f25 f34 f35 f36 f37 f38 a0;have f24:cl w3 g 24 (iv x.tm):=(HK3.o.cell 24).trans (by rw[HM.o];rfl);have f25:cl w3 g 25 (iv x.ts):=(HK3.o.cell 25).trans (by rw[HM.o];rfl);have f34:cl w3 g 34 (iv x.claim.machine):=(HK3.o.cell 34).trans (by rw[HM.o];rfl);have f35:cl w3 g 35 (iv x.claim.epoch):=(HK3.o.cell 35).trans (by rw[HM.o];rfl);have f36:cl w3 g 36 (.slice A6 x.claim.stubs.length c6):=(HK3.o.cell 36).trans (by rw[HM.o];rfl);have f37:cl w3 g 37 (.slice A7 x.claim.scions.length c7):=(HK3.o.cell 37).trans (by rw[HM.o];rfl);have f38:cl w3 g 38 (.slice A8 x.claim.checks.length c8):=(HK3.o.cell 38).trans (by rw[HM.o];rfl)
    cases h21:clV x.claim with
    | true =>
     have kc1:=RCl_any x.claim (LsI.below H1.o.2.2.2.2.2.1 (qa1 ndC) (qa0 ndC) HB3.o) (LsI.below H1.o.2.2.2.2.2.2.1 (qa1 ndC) (qa0 ndC) HB3.o) (LsI.below H1.o.2.2.2.2.2.2.2 (qa1 ndC) (qa0 ndC) HB3.o);rw[h21] at kc1;have G1:=lh h21;clear h21
     go_wp2_with fail
     refine kc1.mono ?_;rintro e w4 ⟨rfl,hb4⟩;have HB4:=lh (HB3.o.trans (hb4.mono HB3.o.size));have HK4:=lh (HK3.o.below hb4 HK3.o.lt);clear hb4 kc1 f24 f25 f34 f35 f36 f37 f38
     go_wp2_with fail
     go_ret;exact qo9 (by rw[HR2.o];simp[okV,plV,ok4,ok8,ok9,ql2,ql4,G0.o,G1.o]) HB4.o
    | false =>
     have kc1:=RCl_any x.claim (LsI.below H1.o.2.2.2.2.2.1 (qa1 ndC) (qa0 ndC) HB3.o) (LsI.below H1.o.2.2.2.2.2.2.1 (qa1 ndC) (qa0 ndC) HB3.o) (LsI.below H1.o.2.2.2.2.2.2.2 (qa1 ndC) (qa0 ndC) HB3.o);rw[h21] at kc1;have G1:=lh h21;clear h21
     go_wp2_with fail
     refine kc1.mono ?_;rintro e w4 ⟨rfl,hb4⟩;have HB4:=lh (HB3.o.trans (hb4.mono HB3.o.size));clear hb4 kc1 f24 f25 f34 f35 f36 f37 f38
     go_wp2_with fail
     go_ret;exact qo9 (by rw[HR2.o];simp[okV,plV,ok4,ok8,ok9,ql2,ql4,G0.o,G1.o]) HB4.o
   | false =>
    have kc0:=qm1 (w:=w2) x;rw[h20] at kc0;have G0:=lh h20;clear h20
    go_wp2_with fail
    refine kc0.mono ?_;rintro e w3 ⟨rfl,hb3⟩;have HB3:=lh (HB2.o.trans (hb3.mono HB2.o.size));clear hb3 kc0 f24 f25 f34 f35 f36 f37 f38
    go_wp2_with fail
    go_ret;exact qo9 (by rw[HR2.o];simp[okV,plV,ok4,ok8,ok9,ql2,ql4,G0.o]) HB3.o
  ·rcases hq with rfl | rfl | rfl | rfl
   all_goals
    have f24:cl w2 g 24 (iv x.tm):=(HK2.o.cell 24).trans (by rw[HM.o];rfl);have f25:cl w2 g 25 (iv x.ts):=(HK2.o.cell 25).trans (by rw[HM.o];rfl)
    cases h20:trV x with
    | true =>
     have kc0:=qm1 (w:=w2) x;rw[h20] at kc0;have G0:=lh h20;clear h20
     go_wp2_with fail
     refine kc0.mono ?_;rintro e w3 ⟨rfl,hb3⟩;have HB3:=lh (HB2.o.trans (hb3.mono HB2.o.size));have HK3:=lh (HK2.o.below hb3 HK2.o.lt);clear hb3 kc0 f24 f25 a0
     go_wp2_with fail
     go_ret;exact qo9 (by rw[HR2.o];simp[okV,plV,ok4,ok8,ok9,ql2,ql4,G0.o]) HB3.o
    | false =>
     have kc0:=qm1 (w:=w2) x;rw[h20] at kc0;have G0:=lh h20;clear h20
     go_wp2_with fail
     refine kc0.mono ?_;rintro e w3 ⟨rfl,hb3⟩;have HB3:=lh (HB2.o.trans (hb3.mono HB2.o.size));clear hb3 kc0 f24 f25
     go_wp2_with fail
     go_ret;exact qo9 (by rw[HR2.o];simp[okV,plV,ok4,ok8,ok9,ql2,ql4,G0.o]) HB3.o
  ·subst hq;have f3:cl w2 g 3 (.string x.name):=(HK2.o.cell 3).trans (by rw[HM.o];rfl);have f4:cl w2 g 4 (iv x.ref.kind):=(HK2.o.cell 4).trans (by rw[HM.o];rfl);have f5:cl w2 g 5 (iv x.ref.int):=(HK2.o.cell 5).trans (by rw[HM.o];rfl);have f6:cl w2 g 6 (iv x.ref.owner):=(HK2.o.cell 6).trans (by rw[HM.o];rfl);have f7:cl w2 g 7 (uv x.ref.number):=(HK2.o.cell 7).trans (by rw[HM.o];rfl);have f8:cl w2 g 8 (iv x.ref.idm):=(HK2.o.cell 8).trans (by rw[HM.o];rfl);have f9:cl w2 g 9 (iv x.ref.ids):=(HK2.o.cell 9).trans (by rw[HM.o];rfl);have f10:cl w2 g 10 (iv x.ref.cls):=(HK2.o.cell 10).trans (by rw[HM.o];rfl);have f11:cl w2 g 11 (.bool x.ref.weak):=(HK2.o.cell 11).trans (by rw[HM.o];rfl)
   cases h20:nmV x.name with
   | true =>
    have kc0:=qr7 w2 x.name;rw[h20] at kc0;have G0:=lh h20;clear h20
    go_wp2_with fail
    refine kc0.mono ?_;rintro e w3 ⟨rfl,hb3⟩;have HB3:=lh (HB2.o.trans (hb3.mono HB2.o.size));have HK3:=lh (HK2.o.below hb3 HK2.o.lt);clear hb3 kc0 f3 f4 f5 f6 f7 f8 f9 f10 f11 a0;have f3:cl w3 g 3 (.string x.name):=(HK3.o.cell 3).trans (by rw[HM.o];rfl);have f4:cl w3 g 4 (iv x.ref.kind):=(HK3.o.cell 4).trans (by rw[HM.o];rfl);have f5:cl w3 g 5 (iv x.ref.int):=(HK3.o.cell 5).trans (by rw[HM.o];rfl);have f6:cl w3 g 6 (iv x.ref.owner):=(HK3.o.cell 6).trans (by rw[HM.o];rfl);have f7:cl w3 g 7 (uv x.ref.number):=(HK3.o.cell 7).trans (by rw[HM.o];rfl);have f8:cl w3 g 8 (iv x.ref.idm):=(HK3.o.cell 8).trans (by rw[HM.o];rfl);have f9:cl w3 g 9 (iv x.ref.ids):=(HK3.o.cell 9).trans (by rw[HM.o];rfl);have f10:cl w3 g 10 (iv x.ref.cls):=(HK3.o.cell 10).trans (by rw[HM.o];rfl);have f11:cl w3 g 11 (.bool x.ref.weak):=(HK3.o.cell 11).trans (by rw[HM.o];rfl)
    cases h21:rfV x.ref with
    | true =>
     have kc1:=qk2 w3 x.ref;rw[h21] at kc1;have G1:=lh h21;clear h21
     go_wp2_with fail
     refine kc1.mono ?_;rintro e w4 ⟨rfl,hb4⟩;have HB4:=lh (HB3.o.trans (hb4.mono HB3.o.size));have HK4:=lh (HK3.o.below hb4 HK3.o.lt);clear hb4 kc1 f3 f4 f5 f6 f7 f8 f9 f10 f11;have f3:cl w4 g 3 (.string x.name):=(HK4.o.cell 3).trans (by rw[HM.o];rfl);have f4:cl w4 g 4 (iv x.ref.kind):=(HK4.o.cell 4).trans (by rw[HM.o];rfl);have f5:cl w4 g 5 (iv x.ref.int):=(HK4.o.cell 5).trans (by rw[HM.o];rfl);have f6:cl w4 g 6 (iv x.ref.owner):=(HK4.o.cell 6).trans (by rw[HM.o];rfl);have f7:cl w4 g 7 (uv x.ref.number):=(HK4.o.cell 7).trans (by rw[HM.o];rfl);have f8:cl w4 g 8 (iv x.ref.idm):=(HK4.o.cell 8).trans (by rw[HM.o];rfl);have f9:cl w4 g 9 (iv x.ref.ids):=(HK4.o.cell 9).trans (by rw[HM.o];rfl);have f10:cl w4 g 10 (iv x.ref.cls):=(HK4.o.cell 10).trans (by rw[HM.o];rfl);have f11:cl w4 g 11 (.bool x.ref.weak):=(HK4.o.cell 11).trans (by rw[HM.o];rfl)
     cases h22:x.ref.weak with
     | true =>
      have q2:x.ref.weak=true:=h22;have G2:=lh h22;clear h22
      go_wp2_with fail
      go_ret;exact qo9 (by rw[HR2.o];simp[okV,plV,ok4,ok8,ok9,ql2,ql4,G0.o,G1.o,G2.o]) HB4.o
     | false =>
      have q2:x.ref.weak=false:=h22;have G2:=lh h22;clear h22
      cases h23:decide (x.ref.kind ≥ 2) with
      | true =>
       have q3:decide (x.ref.kind ≥ 2)=true:=h23;have G3:=lh h23;clear h23
       go_wp2_with fail
       go_ret;exact qo9 (by rw[HR2.o];simp[okV,plV,ok4,ok8,ok9,ql2,ql4,G0.o,G1.o,G2.o,G3.o]) HB4.o
      | false =>
       have q3:decide (x.ref.kind ≥ 2)=false:=h23;have G3:=lh h23;clear h23
       go_wp2_with fail
       go_ret;exact qo9 (by rw[HR2.o];simp[okV,plV,ok4,ok8,ok9,ql2,ql4,G0.o,G1.o,G2.o,G3.o]) HB4.o
    | false =>
     have kc1:=qk2 w3 x.ref;rw[h21] at kc1;have G1:=lh h21;clear h21
     go_wp2_with fail
     refine kc1.mono ?_;rintro e w4 ⟨rfl,hb4⟩;have HB4:=lh (HB3.o.trans (hb4.mono HB3.o.size));clear hb4 kc1 f3 f4 f5 f6 f7 f8 f9 f10 f11
     go_wp2_with fail
     go_ret;exact qo9 (by rw[HR2.o];simp[okV,plV,ok4,ok8,ok9,ql2,ql4,G0.o,G1.o]) HB4.o
   | false =>
    have kc0:=qr7 w2 x.name;rw[h20] at kc0;have G0:=lh h20;clear h20
    go_wp2_with fail
    refine kc0.mono ?_;rintro e w3 ⟨rfl,hb3⟩;have HB3:=lh (HB2.o.trans (hb3.mono HB2.o.size));clear hb3 kc0 f3 f4 f5 f6 f7 f8 f9 f10 f11
    go_wp2_with fail
    go_ret;exact qo9 (by rw[HR2.o];simp[okV,plV,ok4,ok8,ok9,ql2,ql4,G0.o]) HB3.o
theorem rvout {w:World} {M:Array Value} {n:Int} (h0:M[0]?=some (iv n)) (hs:M.toList.length=39) (hn:¬ (0≤n∧n < 18)):Calls Tryz.prog 36 #[.agg M] w (qe7 w false):=by
 obtain⟨W,hW⟩:∃ W,W=w.alloc (.cells M 42):=⟨_,rfl⟩
 obtain⟨g,hg⟩:∃ g,g=w.heap.size:=⟨_,rfl⟩
 have hb0:bw w W:=by rw[hW];exact qa2 _ _
 have hk0:Bk W g 42 M:=by rw[hW,hg];exact Bk.new _ _ _
 have a0:cl W g 0 (iv n):=(hk0.cell 0).trans h0;have HB0:=lh hb0;clear hb0 hk0 h0 hs
 go_enter Tryz.func36,Tryz.ntmps36
 go_upto_region 1 with fail
 rw[← hW,← hg];clear hW hg
 by_cases hl:n < 0
 ·have q0:decide (n < 0)=true:=decide_eq_true hl;clear hn hl
  go_quiet (fail)
  have hbq:=qf5 (Below.refl W.heap.size W) nq;have HBQ:=lh (HB0.o.trans (hbq.mono HB0.o.size));generalize W.drewN nq=wq at *;clear hbq
  go_wp2_with fail
  go_ret;exact⟨rfl,HBQ.o⟩
 ·have q0:decide (n < 0)=false:=decide_eq_false hl;have q1:decide (n > 17)=true:=decide_eq_true (by omega);have q2:decide (17 < n)=true:=decide_eq_true (by omega);clear hn hl
  go_quiet (fail)
  have hbq:=qf5 (Below.refl W.heap.size W) nq;have HBQ:=lh (HB0.o.trans (hbq.mono HB0.o.size));generalize W.drewN nq=wq at *;clear hbq
  go_wp2_with fail
  go_ret;exact⟨rfl,HBQ.o⟩
theorem RValid_any {w:World} {x:Ms} {r:List Value} (h:MsI w x r):Calls Tryz.prog 36 #[.agg r.toArray] w (qe7 w (msV x)):=by
 by_cases hk:0≤x.kind∧x.kind < 18
 ·obtain⟨k,hkx⟩:∃ k:Nat,x.kind=(k:Int):=⟨x.kind.toNat,by omega⟩
  have hv:msV x=(okV k x && decide (x=qi6 k x)):=by
   unfold msV;rw[decide_eq_true hk,Bool.true_and,hkx,Int.toNat_natCast]
   congr 1
   exact decide_eq_decide.2 eq_comm
  rw[hv];exact rv_in h (by omega) hkx
 ·have hv:msV x=false:=by unfold msV;rw[decide_eq_false hk];rfl
  rw[hv];obtain⟨A1,c1,A2,c2,A3,c3,A4,c4,A5,c5,A6,c6,A7,c7,A8,c8,hr,_⟩:=h;exact rvout (n:=x.kind) (by rw[hr];rfl) (by rw[hr];rfl) hk
end
end Go.Proofs.YtmbnlccafcfbeaaGreatDoor
