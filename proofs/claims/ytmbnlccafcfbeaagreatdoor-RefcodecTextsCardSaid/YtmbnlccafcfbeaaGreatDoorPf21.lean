/- Parts of the proof: RsG, RsH. -/
import Derived.Test.YtmbnlccafcfbeaaGreatDoorPfA
import Derived.Test.YtmbnlccafcfbeaaGreatDoorPf19
set_option linter.unusedVariables false
set_option linter.unusedSimpArgs false
set_option linter.unusedSectionVars false
set_option maxRecDepth 100000
set_option maxHeartbeats 64000000
namespace Go.Proofs.YtmbnlccafcfbeaaGreatDoor
section
open Go.RowKit Go.Sort
attribute [local go_sem] Oper.semAt_some
theorem qk3 {w:World} {A:Option Addr} {c:Nat} {l:List Rf} (h:LsI (qa6 rfC) 26 8 w A c l):Calls Tryz.prog 122 #[.slice A l.length c] w (qe7 w (l.all plV)):=by
 obtain⟨R,hR⟩:∃ R,R=l.all plV:=⟨_,rfl⟩
 rw[← hR];have HR:=lh hR;have HB:=lh (Below.refl w.heap.size w);have h1:=h.le.1;have h2:=h.le.2;have HL:=lh h;clear hR h
 go_enter Tryz.func122,Tryz.ntmps122
 go_wp2_with fail
 go_loopw [3] (fun ix wr=>∃ j:Nat,ix=iv (j:Int)∧j≤l.length∧(l.take j).all plV=true∧bw w wr) (fun ix _=>l.length - (intOf ix).toNat)
 case atStart=>exact⟨0,rfl,Nat.zero_le _,rfl,Below.refl _ _⟩
 case round =>
  obtain⟨j,rfl,hj,ht,hbl⟩:=hrel;have HT:=lh (And.intro ht hbl)
  skip
  clear ht hbl
  by_cases hlt:j < l.length
  ·obtain⟨p,hp⟩:∃ p,l[j]?=some p:=⟨_,List.getElem?_eq_getElem hlt⟩
   obtain⟨b,o,r,hA,_,hr,hcell⟩:=HL.o.get hp;subst hA;have HP:=lh hp;have e0:cl wr b (o+j*8) (iv p.kind):=(qa9 HT.o.2).1 _ _ (qa4 (hcell 0 _ (by rw[hr];rfl))) |>.trans (hcell 0 _ (by rw[hr];rfl));have e1:cl wr b (o+j*8+1) (iv p.int):=(qa9 HT.o.2).1 _ _ (qa4 (hcell 1 _ (by rw[hr];rfl))) |>.trans (hcell 1 _ (by rw[hr];rfl));have e2:cl wr b (o+j*8+2) (iv p.owner):=(qa9 HT.o.2).1 _ _ (qa4 (hcell 2 _ (by rw[hr];rfl))) |>.trans (hcell 2 _ (by rw[hr];rfl));have e3:cl wr b (o+j*8+3) (uv p.number):=(qa9 HT.o.2).1 _ _ (qa4 (hcell 3 _ (by rw[hr];rfl))) |>.trans (hcell 3 _ (by rw[hr];rfl));have e4:cl wr b (o+j*8+4) (iv p.idm):=(qa9 HT.o.2).1 _ _ (qa4 (hcell 4 _ (by rw[hr];rfl))) |>.trans (hcell 4 _ (by rw[hr];rfl));have e5:cl wr b (o+j*8+5) (iv p.ids):=(qa9 HT.o.2).1 _ _ (qa4 (hcell 5 _ (by rw[hr];rfl))) |>.trans (hcell 5 _ (by rw[hr];rfl));have e6:cl wr b (o+j*8+6) (iv p.cls):=(qa9 HT.o.2).1 _ _ (qa4 (hcell 6 _ (by rw[hr];rfl))) |>.trans (hcell 6 _ (by rw[hr];rfl));have e7:cl wr b (o+j*8+7) (.bool p.weak):=(qa9 HT.o.2).1 _ _ (qa4 (hcell 7 _ (by rw[hr];rfl))) |>.trans (hcell 7 _ (by rw[hr];rfl));have hjc:j < c:=by omega
   have kc:=qk2 wr p
   cases hv:rfV p with
   | false =>
    rw[hv] at kc;have HV:=lh hv;clear hv
    go_wp2_with fail
    refine kc.mono ?_;rintro e w2 ⟨rfl,hb2⟩;have HC2:=lh (HT.o.2.trans (hb2.mono HT.o.2.size));have m7:cl w2 b (o+j*8+7) (.bool p.weak):=((qa9 hb2).1 _ _ (qa4 e7)).trans e7;clear kc hb2 hp hcell hr e0 e1 e2 e3 e4 e5 e6 e7;have HQ:Hid (l.all plV=false):=lh (by rw[List.all_eq_false];exact⟨p,List.mem_of_getElem? HP.o,by simp[plV,HV.o]⟩)
    go_wp2_with fail
    go_ret;refine⟨cgb ?_,HB.o.trans (HC2.o.mono HB.o.size)⟩;rw[HR.o]
    simp[HQ.o]
   | true =>
    rw[hv] at kc;have HV:=lh hv;clear hv
    go_wp2_with fail
    refine kc.mono ?_;rintro e w2 ⟨rfl,hb2⟩;have HC2:=lh (HT.o.2.trans (hb2.mono HT.o.2.size));have m7:cl w2 b (o+j*8+7) (.bool p.weak):=((qa9 hb2).1 _ _ (qa4 e7)).trans e7;clear kc hb2 hp hcell hr e0 e1 e2 e3 e4 e5 e6 e7
    cases k0:p.weak with
    | true =>
     have s0:p.weak=true:=k0;have K0:=lh k0;clear k0;have HQ:Hid (l.all plV=false):=lh (by rw[List.all_eq_false];exact⟨p,List.mem_of_getElem? HP.o,by simp[plV,HV.o,K0.o]⟩)
     go_wp2_with fail
     go_ret;refine⟨cgb ?_,HB.o.trans (HC2.o.mono HB.o.size)⟩;rw[HR.o]
     simp[HQ.o]
    | false =>
     have s0:p.weak=false:=k0;have K0:=lh k0;clear k0;have HQ:Hid (plV p=true):=lh (by simp[plV,HV.o,K0.o])
     go_wp2_with fail
     go_roundw
     case rel=>exact⟨j+1,by go_num,hlt,by rw[List.take_add_one,HP.o,List.all_append,HT.o.1];simp[HQ.o],HC2.o⟩
     case measure=>simp[intOf];omega
  ·obtain rfl:j=l.length:=by omega
   have HE:Hid (l.all plV=true):=lh (by have:=HT.o.1;rw[List.take_length] at this;exact this);clear hlt hj
   go_wp2_with fail
   go_ret;refine⟨cgb ?_,HT.o.2⟩;rw[HR.o,HE.o]
theorem qp6 {w:World} {A:Option Addr} {c:Nat} {l:List Nd} (h:LsI (qa6 ndC) 136 3 w A c l):Calls Tryz.prog 125 #[.slice A l.length c] w (qe7 w (lmV 1024 ndV l)):=by
 obtain⟨R,hR⟩:∃ R,R=lmV 1024 ndV l:=⟨_,rfl⟩
 rw[← hR];have HR:=lh hR;have HB:=lh (Below.refl w.heap.size w);have h1:=h.le.1;have h2:=h.le.2;have HL:=lh h;clear hR h
 go_enter Tryz.func125,Tryz.ntmps125
 go_wp2_with fail
 go_loopw [3] (fun ix wr=>∃ j:Nat,ix=iv (j:Int)∧j≤l.length∧(l.take j).all ndV=true∧bw w wr) (fun ix _=>l.length - (intOf ix).toNat)
 case atStart=>exact⟨0,rfl,Nat.zero_le _,rfl,Below.refl _ _⟩
 case round =>
  obtain⟨j,rfl,hj,ht,hbl⟩:=hrel;have HT:=lh (And.intro ht hbl)
  skip
  clear ht hbl
  by_cases hlt:j < l.length
  ·obtain⟨p,hp⟩:∃ p,l[j]?=some p:=⟨_,List.getElem?_eq_getElem hlt⟩
   obtain⟨b,o,r,hA,_,hr,hcell⟩:=HL.o.get hp;subst hA;have HP:=lh hp;have e0:cl wr b (o+j*3) (iv p.peer):=(qa9 HT.o.2).1 _ _ (qa4 (hcell 0 _ (by rw[hr];rfl))) |>.trans (hcell 0 _ (by rw[hr];rfl));have e1:cl wr b (o+j*3+1) (uv p.number):=(qa9 HT.o.2).1 _ _ (qa4 (hcell 1 _ (by rw[hr];rfl))) |>.trans (hcell 1 _ (by rw[hr];rfl));have e2:cl wr b (o+j*3+2) (iv p.stamp):=(qa9 HT.o.2).1 _ _ (qa4 (hcell 2 _ (by rw[hr];rfl))) |>.trans (hcell 2 _ (by rw[hr];rfl));have hjc:j < c:=by omega
   have kc:=qe8 wr p.peer
   cases hv:ql1 p.peer with
   | false =>
    rw[hv] at kc;have HV:=lh hv;clear hv
    go_wp2_with fail
    refine kc.mono ?_;rintro e w2 ⟨rfl,hb2⟩;have HC2:=lh (HT.o.2.trans (hb2.mono HT.o.2.size));have m2:cl w2 b (o+j*3+2) (iv p.stamp):=((qa9 hb2).1 _ _ (qa4 e2)).trans e2;clear kc hb2 hp hcell hr e0 e1 e2;have HQ:Hid (l.all ndV=false):=lh (by rw[List.all_eq_false];exact⟨p,List.mem_of_getElem? HP.o,by simp[ndV,HV.o]⟩)
    go_wp2_with fail
    go_ret;refine⟨cgb ?_,HB.o.trans (HC2.o.mono HB.o.size)⟩;rw[HR.o]
    simp[HQ.o,lmV]
   | true =>
    rw[hv] at kc;have HV:=lh hv;clear hv
    go_wp2_with fail
    refine kc.mono ?_;rintro e w2 ⟨rfl,hb2⟩;have HC2:=lh (HT.o.2.trans (hb2.mono HT.o.2.size));have m2:cl w2 b (o+j*3+2) (iv p.stamp):=((qa9 hb2).1 _ _ (qa4 e2)).trans e2;clear kc hb2 hp hcell hr e0 e1 e2
    cases k0:decide (p.stamp < 0) with
    | true =>
     have s0:decide (p.stamp < 0)=true:=k0;have K0:=lh k0;clear k0;have HQ:Hid (l.all ndV=false):=lh (by rw[List.all_eq_false];exact⟨p,List.mem_of_getElem? HP.o,by simp[ndV,HV.o,Int.not_le.2 (of_decide_eq_true K0.o)]⟩)
     go_wp2_with fail
     go_ret;refine⟨cgb ?_,HB.o.trans (HC2.o.mono HB.o.size)⟩;rw[HR.o]
     simp[HQ.o,lmV]
    | false =>
     have s0:decide (p.stamp < 0)=false:=k0;have K0:=lh k0;clear k0;have HQ:Hid (ndV p=true):=lh (by simp[ndV,HV.o,Int.not_lt.1 (of_decide_eq_false K0.o)])
     go_wp2_with fail
     go_roundw
     case rel=>exact⟨j+1,by go_num,hlt,by rw[List.take_add_one,HP.o,List.all_append,HT.o.1];simp[HQ.o],HC2.o⟩
     case measure=>simp[intOf];omega
  ·obtain rfl:j=l.length:=by omega
   have HE:Hid (l.all ndV=true):=lh (by have:=HT.o.1;rw[List.take_length] at this;exact this);clear hlt hj
   cases hq:decide ((l.length:Int)≤1024) with
   | true =>
    have HQ:=lh hq
    go_wp2_with fail
    go_ret;refine⟨cgb ?_,HT.o.2⟩;rw[HR.o];unfold lmV;rw[HE.o,HQ.o]
    try rfl
   | false =>
    have HQ:=lh hq
    go_wp2_with fail
    go_ret;refine⟨cgb ?_,HT.o.2⟩;rw[HR.o];unfold lmV;rw[HE.o,HQ.o]
    try rfl
theorem RWk_any {w:World} (x:Rf) :Calls Tryz.prog 123 #[.agg #[iv x.kind,iv x.int,iv x.owner,uv x.number,iv x.idm,iv x.ids,iv x.cls,.bool x.weak]] w (qe7 w (wkV x)):=by
 obtain⟨R,hR⟩:∃ R,R=wkV x:=⟨_,rfl⟩
 rw[← hR];have HR:=lh hR
 obtain⟨W,hW⟩:∃ W,W=w.alloc (.cells #[iv x.kind,iv x.int,iv x.owner,uv x.number,iv x.idm,iv x.ids,iv x.cls,.bool x.weak] 26):=⟨_,rfl⟩
 obtain⟨g,hg⟩:∃ g,g=w.heap.size:=⟨_,rfl⟩
 have hb0:bw w W:=by rw[hW];exact qa2 _ _
 have hk0:Bk W g 26 #[iv x.kind,iv x.int,iv x.owner,uv x.number,iv x.idm,iv x.ids,iv x.cls,.bool x.weak]:=by rw[hW,hg];exact Bk.new _ _ _
 have a0:cl W g 0 (iv x.kind):=hk0.cell 0;have a1:cl W g 1 (iv x.int):=hk0.cell 1;have a2:cl W g 2 (iv x.owner):=hk0.cell 2;have a3:cl W g 3 (uv x.number):=hk0.cell 3;have a4:cl W g 4 (iv x.idm):=hk0.cell 4;have a5:cl W g 5 (iv x.ids):=hk0.cell 5;have a6:cl W g 6 (iv x.cls):=hk0.cell 6;have a7:cl W g 7 (.bool x.weak):=hk0.cell 7;have HK0:=lh hk0;have HB0:=lh hb0;clear hb0 hk0 hR
 go_enter Tryz.func123,Tryz.ntmps123
 go_upto_region 1 with fail
 rw[← hW,← hg];clear hW hg;have c0:=qk2 W x
 cases h0:rfV x with
 | true =>
  rw[h0] at c0;have H0:=lh h0;clear h0
  go_wp2_with fail
  refine c0.mono ?_;rintro e w1 ⟨rfl,hb1⟩;have HB1:=lh (HB0.o.trans (hb1.mono HB0.o.size));have hk1:=HK0.o.below hb1 HK0.o.lt;have fb0:cl w1 g 0 (iv x.kind):=hk1.cell 0;have fb1:cl w1 g 1 (iv x.int):=hk1.cell 1;have fb2:cl w1 g 2 (iv x.owner):=hk1.cell 2;have fb3:cl w1 g 3 (uv x.number):=hk1.cell 3;have fb4:cl w1 g 4 (iv x.idm):=hk1.cell 4;have fb5:cl w1 g 5 (iv x.ids):=hk1.cell 5;have fb6:cl w1 g 6 (iv x.cls):=hk1.cell 6;have fb7:cl w1 g 7 (.bool x.weak):=hk1.cell 7;have HK1:=lh hk1;clear hb1 hk1 c0 a0 a1 a2 a3 a4 a5 a6 a7
  cases h1:x.weak with
  | true =>
   have q1:x.weak=true:=h1;have H1:=lh h1;clear h1
   go_wp2_with fail
   go_ret;refine⟨cgb ?_,HB1.o⟩;rw[HR.o]
   simp[wkV,H0.o,H1.o]
  | false =>
   have q1:x.weak=false:=h1;have H1:=lh h1;clear h1
   cases h2:(x.kind == 0) with
   | true =>
    have q2:(x.kind == 0)=true:=h2;have H2:=lh h2;clear h2
    go_wp2_with fail
    go_ret;refine⟨cgb ?_,HB1.o⟩;rw[HR.o]
    simp[wkV,H0.o,H1.o,H2.o]
   | false =>
    have q2:(x.kind == 0)=false:=h2;have H2:=lh h2;clear h2
    go_wp2_with fail
    go_ret;refine⟨cgb ?_,HB1.o⟩;rw[HR.o]
    simp[wkV,H0.o,H1.o,H2.o]
 | false =>
  rw[h0] at c0;have H0:=lh h0;clear h0
  go_wp2_with fail
  refine c0.mono ?_;rintro e w1 ⟨rfl,hb1⟩;have HB1:=lh (HB0.o.trans (hb1.mono HB0.o.size));clear hb1 c0 a0 a1 a2 a3 a4 a5 a6 a7
  go_wp2_with fail
  go_ret;refine⟨cgb ?_,HB1.o⟩;rw[HR.o]
  simp[wkV,H0.o]
theorem RLt_any {w:World} (x:Lt) {A9:Option Addr} {d9:Nat} (hl1:LsI (qa6 rfC) 26 8 w A9 d9 x.args):Calls Tryz.prog 58 #[.agg #[iv x.idm,iv x.ids,.string x.meth,.slice A9 x.args.length d9]] w (qe7 w (ltV x)):=by
 obtain⟨R,hR⟩:∃ R,R=ltV x:=⟨_,rfl⟩
 rw[← hR];have HR:=lh hR
 obtain⟨W,hW⟩:∃ W,W=w.alloc (.cells #[iv x.idm,iv x.ids,.string x.meth,.slice A9 x.args.length d9] 29):=⟨_,rfl⟩
 obtain⟨g,hg⟩:∃ g,g=w.heap.size:=⟨_,rfl⟩
 have hb0:bw w W:=by rw[hW];exact qa2 _ _
 have hk0:Bk W g 29 #[iv x.idm,iv x.ids,.string x.meth,.slice A9 x.args.length d9]:=by rw[hW,hg];exact Bk.new _ _ _
 have Mhl10:Hid (LsI (qa6 rfC) 26 8 W A9 d9 x.args):=lh (hl1.below (qa1 rfC) (qa0 rfC) hb0);have a0:cl W g 0 (iv x.idm):=hk0.cell 0;have a1:cl W g 1 (iv x.ids):=hk0.cell 1;have a2:cl W g 2 (.string x.meth):=hk0.cell 2;have a3:cl W g 3 (.slice A9 x.args.length d9):=hk0.cell 3;have HK0:=lh hk0;have HB0:=lh hb0;clear hb0 hk0 hR hl1
 go_enter Tryz.func58,Tryz.ntmps58
 go_upto_region 1 with fail
 rw[← hW,← hg];clear hW hg;have c0:=qo8 W x.idm x.ids
 cases h0:idV x.idm x.ids with
 | true =>
  rw[h0] at c0;have H0:=lh h0;clear h0
  go_wp2_with fail
  refine c0.mono ?_;rintro e w1 ⟨rfl,hb1⟩;have HB1:=lh (HB0.o.trans (hb1.mono HB0.o.size));have hk1:=HK0.o.below hb1 HK0.o.lt;have Mhl11:Hid (LsI (qa6 rfC) 26 8 w1 A9 d9 x.args):=lh (Mhl10.o.below (qa1 rfC) (qa0 rfC) hb1);have fb0:cl w1 g 0 (iv x.idm):=hk1.cell 0;have fb1:cl w1 g 1 (iv x.ids):=hk1.cell 1;have fb2:cl w1 g 2 (.string x.meth):=hk1.cell 2;have fb3:cl w1 g 3 (.slice A9 x.args.length d9):=hk1.cell 3;have HK1:=lh hk1;clear hb1 hk1 c0 a0 a1 a2 a3;have c1:=qr7 w1 x.meth
  cases h1:nmV x.meth with
  | true =>
   rw[h1] at c1;have H1:=lh h1;clear h1
   go_wp2_with fail
   refine c1.mono ?_;rintro e w2 ⟨rfl,hb2⟩;have HB2:=lh (HB1.o.trans (hb2.mono HB1.o.size));have hk2:=HK1.o.below hb2 HK1.o.lt;have Mhl12:Hid (LsI (qa6 rfC) 26 8 w2 A9 d9 x.args):=lh (Mhl11.o.below (qa1 rfC) (qa0 rfC) hb2);have fc0:cl w2 g 0 (iv x.idm):=hk2.cell 0;have fc1:cl w2 g 1 (iv x.ids):=hk2.cell 1;have fc2:cl w2 g 2 (.string x.meth):=hk2.cell 2;have fc3:cl w2 g 3 (.slice A9 x.args.length d9):=hk2.cell 3;have HK2:=lh hk2;clear hb2 hk2 c1 fb0 fb1 fb2 fb3
   cases h2:decide ((x.args.length:Int)≤8) with
   | true =>
    have q2:decide ((x.args.length:Int)≤8)=true:=h2;have H2:=lh h2;clear h2;have c3:=qk3 Mhl12.o
    cases h3:x.args.all plV with
    | true =>
     rw[h3] at c3;have H3:=lh h3;clear h3
     go_wp2_with fail
     refine c3.mono ?_;rintro e w3 ⟨rfl,hb3⟩;have HB3:=lh (HB2.o.trans (hb3.mono HB2.o.size));clear hb3 c3 fc0 fc1 fc2 fc3
     go_wp2_with fail
     go_ret;refine⟨cgb ?_,HB3.o⟩;rw[HR.o]
     simp[ltV,H0.o,H1.o,H2.o,H3.o]
    | false =>
     rw[h3] at c3;have H3:=lh h3;clear h3
     go_wp2_with fail
     refine c3.mono ?_;rintro e w3 ⟨rfl,hb3⟩;have HB3:=lh (HB2.o.trans (hb3.mono HB2.o.size));clear hb3 c3 fc0 fc1 fc2 fc3
     go_wp2_with fail
     go_ret;refine⟨cgb ?_,HB3.o⟩;rw[HR.o]
     simp[ltV,H0.o,H1.o,H2.o,H3.o]
   | false =>
    have q2:decide ((x.args.length:Int)≤8)=false:=h2;have H2:=lh h2;clear h2
    go_wp2_with fail
    go_ret;refine⟨cgb ?_,HB2.o⟩;rw[HR.o]
    simp[ltV,H0.o,H1.o,H2.o]
  | false =>
   rw[h1] at c1;have H1:=lh h1;clear h1
   go_wp2_with fail
   refine c1.mono ?_;rintro e w2 ⟨rfl,hb2⟩;have HB2:=lh (HB1.o.trans (hb2.mono HB1.o.size));clear hb2 c1 fb0 fb1 fb2 fb3
   go_wp2_with fail
   go_ret;refine⟨cgb ?_,HB2.o⟩;rw[HR.o]
   simp[ltV,H0.o,H1.o]
 | false =>
  rw[h0] at c0;have H0:=lh h0;clear h0
  go_wp2_with fail
  refine c0.mono ?_;rintro e w1 ⟨rfl,hb1⟩;have HB1:=lh (HB0.o.trans (hb1.mono HB0.o.size));clear hb1 c0 a0 a1 a2 a3
  go_wp2_with fail
  go_ret;refine⟨cgb ?_,HB1.o⟩;rw[HR.o]
  simp[ltV,H0.o]
theorem RWa_any {w:World} (x:Wa) :Calls Tryz.prog 124 #[.agg #[iv x.idm,iv x.ids,.string x.meth,iv x.key,iv x.tgt.kind,iv x.tgt.int,iv x.tgt.owner,uv x.tgt.number,iv x.tgt.idm,iv x.tgt.ids,iv x.tgt.cls,.bool x.tgt.weak]] w (qe7 w (waV x)):=by
 obtain⟨R,hR⟩:∃ R,R=waV x:=⟨_,rfl⟩
 rw[← hR];have HR:=lh hR
 obtain⟨W,hW⟩:∃ W,W=w.alloc (.cells #[iv x.idm,iv x.ids,.string x.meth,iv x.key,iv x.tgt.kind,iv x.tgt.int,iv x.tgt.owner,uv x.tgt.number,iv x.tgt.idm,iv x.tgt.ids,iv x.tgt.cls,.bool x.tgt.weak] 65):=⟨_,rfl⟩
 obtain⟨g,hg⟩:∃ g,g=w.heap.size:=⟨_,rfl⟩
 have hb0:bw w W:=by rw[hW];exact qa2 _ _
 have hk0:Bk W g 65 #[iv x.idm,iv x.ids,.string x.meth,iv x.key,iv x.tgt.kind,iv x.tgt.int,iv x.tgt.owner,uv x.tgt.number,iv x.tgt.idm,iv x.tgt.ids,iv x.tgt.cls,.bool x.tgt.weak]:=by rw[hW,hg];exact Bk.new _ _ _
 have a0:cl W g 0 (iv x.idm):=hk0.cell 0;have a1:cl W g 1 (iv x.ids):=hk0.cell 1;have a2:cl W g 2 (.string x.meth):=hk0.cell 2;have a3:cl W g 3 (iv x.key):=hk0.cell 3;have a4:cl W g 4 (iv x.tgt.kind):=hk0.cell 4;have a5:cl W g 5 (iv x.tgt.int):=hk0.cell 5;have a6:cl W g 6 (iv x.tgt.owner):=hk0.cell 6;have a7:cl W g 7 (uv x.tgt.number):=hk0.cell 7;have a8:cl W g 8 (iv x.tgt.idm):=hk0.cell 8;have a9:cl W g 9 (iv x.tgt.ids):=hk0.cell 9;have a10:cl W g 10 (iv x.tgt.cls):=hk0.cell 10;have a11:cl W g 11 (.bool x.tgt.weak):=hk0.cell 11;have HK0:=lh hk0;have HB0:=lh hb0;clear hb0 hk0 hR
 go_enter Tryz.func124,Tryz.ntmps124
 go_upto_region 1 with fail
 rw[← hW,← hg];clear hW hg;have c0:=qo8 W x.idm x.ids
 cases h0:idV x.idm x.ids with
 | true =>
  rw[h0] at c0;have H0:=lh h0;clear h0
  go_wp2_with fail
  refine c0.mono ?_;rintro e w1 ⟨rfl,hb1⟩;have HB1:=lh (HB0.o.trans (hb1.mono HB0.o.size));have hk1:=HK0.o.below hb1 HK0.o.lt;have fb0:cl w1 g 0 (iv x.idm):=hk1.cell 0;have fb1:cl w1 g 1 (iv x.ids):=hk1.cell 1;have fb2:cl w1 g 2 (.string x.meth):=hk1.cell 2;have fb3:cl w1 g 3 (iv x.key):=hk1.cell 3;have fb4:cl w1 g 4 (iv x.tgt.kind):=hk1.cell 4;have fb5:cl w1 g 5 (iv x.tgt.int):=hk1.cell 5;have fb6:cl w1 g 6 (iv x.tgt.owner):=hk1.cell 6;have fb7:cl w1 g 7 (uv x.tgt.number):=hk1.cell 7;have fb8:cl w1 g 8 (iv x.tgt.idm):=hk1.cell 8;have fb9:cl w1 g 9 (iv x.tgt.ids):=hk1.cell 9;have fb10:cl w1 g 10 (iv x.tgt.cls):=hk1.cell 10;have fb11:cl w1 g 11 (.bool x.tgt.weak):=hk1.cell 11;have HK1:=lh hk1;clear hb1 hk1 c0 a0 a1 a2 a3 a4 a5 a6 a7 a8 a9 a10 a11;have c1:=qr7 w1 x.meth
  cases h1:nmV x.meth with
  | true =>
   rw[h1] at c1;have H1:=lh h1;clear h1
   go_wp2_with fail
   refine c1.mono ?_;rintro e w2 ⟨rfl,hb2⟩;have HB2:=lh (HB1.o.trans (hb2.mono HB1.o.size));have hk2:=HK1.o.below hb2 HK1.o.lt;have fc0:cl w2 g 0 (iv x.idm):=hk2.cell 0;have fc1:cl w2 g 1 (iv x.ids):=hk2.cell 1;have fc2:cl w2 g 2 (.string x.meth):=hk2.cell 2;have fc3:cl w2 g 3 (iv x.key):=hk2.cell 3;have fc4:cl w2 g 4 (iv x.tgt.kind):=hk2.cell 4;have fc5:cl w2 g 5 (iv x.tgt.int):=hk2.cell 5;have fc6:cl w2 g 6 (iv x.tgt.owner):=hk2.cell 6;have fc7:cl w2 g 7 (uv x.tgt.number):=hk2.cell 7;have fc8:cl w2 g 8 (iv x.tgt.idm):=hk2.cell 8;have fc9:cl w2 g 9 (iv x.tgt.ids):=hk2.cell 9;have fc10:cl w2 g 10 (iv x.tgt.cls):=hk2.cell 10;have fc11:cl w2 g 11 (.bool x.tgt.weak):=hk2.cell 11;have HK2:=lh hk2;clear hb2 hk2 c1 fb0 fb1 fb2 fb3 fb4 fb5 fb6 fb7 fb8 fb9 fb10 fb11;have c2:=RIntg_any w2 x.key
   cases h2:intV x.key with
   | true =>
    rw[h2] at c2;have H2:=lh h2;clear h2
    go_wp2_with fail
    refine c2.mono ?_;rintro e w3 ⟨rfl,hb3⟩;have HB3:=lh (HB2.o.trans (hb3.mono HB2.o.size));have hk3:=HK2.o.below hb3 HK2.o.lt;have fd0:cl w3 g 0 (iv x.idm):=hk3.cell 0;have fd1:cl w3 g 1 (iv x.ids):=hk3.cell 1;have fd2:cl w3 g 2 (.string x.meth):=hk3.cell 2;have fd3:cl w3 g 3 (iv x.key):=hk3.cell 3;have fd4:cl w3 g 4 (iv x.tgt.kind):=hk3.cell 4;have fd5:cl w3 g 5 (iv x.tgt.int):=hk3.cell 5;have fd6:cl w3 g 6 (iv x.tgt.owner):=hk3.cell 6;have fd7:cl w3 g 7 (uv x.tgt.number):=hk3.cell 7;have fd8:cl w3 g 8 (iv x.tgt.idm):=hk3.cell 8;have fd9:cl w3 g 9 (iv x.tgt.ids):=hk3.cell 9;have fd10:cl w3 g 10 (iv x.tgt.cls):=hk3.cell 10;have fd11:cl w3 g 11 (.bool x.tgt.weak):=hk3.cell 11;have HK3:=lh hk3;clear hb3 hk3 c2 fc0 fc1 fc2 fc3 fc4 fc5 fc6 fc7 fc8 fc9 fc10 fc11;have c3:=RWk_any (w:=w3) x.tgt
    cases h3:wkV x.tgt with
    | true =>
     rw[h3] at c3;have H3:=lh h3;clear h3
     go_wp2_with fail
     refine c3.mono ?_;rintro e w4 ⟨rfl,hb4⟩;have HB4:=lh (HB3.o.trans (hb4.mono HB3.o.size));clear hb4 c3 fd0 fd1 fd2 fd3 fd4 fd5 fd6 fd7 fd8 fd9 fd10 fd11
     go_wp2_with fail
     go_ret;refine⟨cgb ?_,HB4.o⟩;rw[HR.o]
     simp[waV,H0.o,H1.o,H2.o,H3.o]
    | false =>
     rw[h3] at c3;have H3:=lh h3;clear h3
     go_wp2_with fail
     refine c3.mono ?_;rintro e w4 ⟨rfl,hb4⟩;have HB4:=lh (HB3.o.trans (hb4.mono HB3.o.size));clear hb4 c3 fd0 fd1 fd2 fd3 fd4 fd5 fd6 fd7 fd8 fd9 fd10 fd11
     go_wp2_with fail
     go_ret;refine⟨cgb ?_,HB4.o⟩;rw[HR.o]
     simp[waV,H0.o,H1.o,H2.o,H3.o]
   | false =>
    rw[h2] at c2;have H2:=lh h2;clear h2
    go_wp2_with fail
    refine c2.mono ?_;rintro e w3 ⟨rfl,hb3⟩;have HB3:=lh (HB2.o.trans (hb3.mono HB2.o.size));clear hb3 c2 fc0 fc1 fc2 fc3 fc4 fc5 fc6 fc7 fc8 fc9 fc10 fc11
    go_wp2_with fail
    go_ret;refine⟨cgb ?_,HB3.o⟩;rw[HR.o]
    simp[waV,H0.o,H1.o,H2.o]
  | false =>
   rw[h1] at c1;have H1:=lh h1;clear h1
   go_wp2_with fail
   refine c1.mono ?_;rintro e w2 ⟨rfl,hb2⟩;have HB2:=lh (HB1.o.trans (hb2.mono HB1.o.size));clear hb2 c1 fb0 fb1 fb2 fb3 fb4 fb5 fb6 fb7 fb8 fb9 fb10 fb11
   go_wp2_with fail
   go_ret;refine⟨cgb ?_,HB2.o⟩;rw[HR.o]
   simp[waV,H0.o,H1.o]
 | false =>
  rw[h0] at c0;have H0:=lh h0;clear h0
  go_wp2_with fail
  refine c0.mono ?_;rintro e w1 ⟨rfl,hb1⟩;have HB1:=lh (HB0.o.trans (hb1.mono HB0.o.size));clear hb1 c0 a0 a1 a2 a3 a4 a5 a6 a7 a8 a9 a10 a11
  go_wp2_with fail
  go_ret;refine⟨cgb ?_,HB1.o⟩;rw[HR.o]
  simp[waV,H0.o]
theorem qm1 {w:World} (x:Ms) :Calls Tryz.prog 60 #[.agg #[iv x.tm,iv x.ts]] w (qe7 w (trV x)):=by
 obtain⟨R,hR⟩:∃ R,R=trV x:=⟨_,rfl⟩
 rw[← hR];have HR:=lh hR
 obtain⟨W,hW⟩:∃ W,W=w.alloc (.cells #[iv x.tm,iv x.ts] 34):=⟨_,rfl⟩
 obtain⟨g,hg⟩:∃ g,g=w.heap.size:=⟨_,rfl⟩
 have hb0:bw w W:=by rw[hW];exact qa2 _ _
 have hk0:Bk W g 34 #[iv x.tm,iv x.ts]:=by rw[hW,hg];exact Bk.new _ _ _
 have a0:cl W g 0 (iv x.tm):=hk0.cell 0;have a1:cl W g 1 (iv x.ts):=hk0.cell 1;have HK0:=lh hk0;have HB0:=lh hb0;clear hb0 hk0 hR
 go_enter Tryz.func60,Tryz.ntmps60
 go_upto_region 1 with fail
 rw[← hW,← hg];clear hW hg;have c0:=qe8 W x.tm
 cases h0:ql1 x.tm with
 | true =>
  rw[h0] at c0;have H0:=lh h0;clear h0
  go_wp2_with fail
  refine c0.mono ?_;rintro e w1 ⟨rfl,hb1⟩;have HB1:=lh (HB0.o.trans (hb1.mono HB0.o.size));have hk1:=HK0.o.below hb1 HK0.o.lt;have fb0:cl w1 g 0 (iv x.tm):=hk1.cell 0;have fb1:cl w1 g 1 (iv x.ts):=hk1.cell 1;have HK1:=lh hk1;clear hb1 hk1 c0 a0 a1
  cases h1:decide (x.ts ≥ 1) with
  | true =>
   have q1:decide (x.ts ≥ 1)=true:=h1;have H1:=lh h1;clear h1
   go_wp2_with fail
   go_ret;refine⟨cgb ?_,HB1.o⟩;rw[HR.o]
   simp[trV,H0.o,H1.o]
  | false =>
   have q1:decide (x.ts ≥ 1)=false:=h1;have H1:=lh h1;clear h1
   go_wp2_with fail
   go_ret;refine⟨cgb ?_,HB1.o⟩;rw[HR.o]
   simp[trV,H0.o,H1.o]
 | false =>
  rw[h0] at c0;have H0:=lh h0;clear h0
  go_wp2_with fail
  refine c0.mono ?_;rintro e w1 ⟨rfl,hb1⟩;have HB1:=lh (HB0.o.trans (hb1.mono HB0.o.size));clear hb1 c0 a0 a1
  go_wp2_with fail
  go_ret;refine⟨cgb ?_,HB1.o⟩;rw[HR.o]
  simp[trV,H0.o]
theorem RCl_any {w:World} (x:Cl) {A6 A7 A8:Option Addr} {c6 c7 c8:Nat} (h6:LsI (qa6 ndC) 136 3 w A6 c6 x.stubs) (h7:LsI (qa6 ndC) 136 3 w A7 c7 x.scions) (h8:LsI (qa6 ndC) 136 3 w A8 c8 x.checks):Calls Tryz.prog 62 #[.agg #[iv x.machine,iv x.epoch,.slice A6 x.stubs.length c6,.slice A7 x.scions.length c7,.slice A8 x.checks.length c8]] w (qe7 w (clV x)):=by
 obtain⟨R,hR⟩:∃ R,R=clV x:=⟨_,rfl⟩
 rw[← hR];have HR:=lh hR
 obtain⟨W,hW⟩:∃ W,W=w.alloc (.cells #[iv x.machine,iv x.epoch,.slice A6 x.stubs.length c6,.slice A7 x.scions.length c7,.slice A8 x.checks.length c8] 40):=⟨_,rfl⟩
 obtain⟨g,hg⟩:∃ g,g=w.heap.size:=⟨_,rfl⟩
 have hb0:bw w W:=by rw[hW];exact qa2 _ _
 have hk0:Bk W g 40 #[iv x.machine,iv x.epoch,.slice A6 x.stubs.length c6,.slice A7 x.scions.length c7,.slice A8 x.checks.length c8]:=by rw[hW,hg];exact Bk.new _ _ _
 have Mh60:Hid (LsI (qa6 ndC) 136 3 W A6 c6 x.stubs):=lh (h6.below (qa1 ndC) (qa0 ndC) hb0);have Mh70:Hid (LsI (qa6 ndC) 136 3 W A7 c7 x.scions):=lh (h7.below (qa1 ndC) (qa0 ndC) hb0);have Mh80:Hid (LsI (qa6 ndC) 136 3 W A8 c8 x.checks):=lh (h8.below (qa1 ndC) (qa0 ndC) hb0);have a0:cl W g 0 (iv x.machine):=hk0.cell 0;have a1:cl W g 1 (iv x.epoch):=hk0.cell 1;have a2:cl W g 2 (.slice A6 x.stubs.length c6):=hk0.cell 2;have a3:cl W g 3 (.slice A7 x.scions.length c7):=hk0.cell 3;have a4:cl W g 4 (.slice A8 x.checks.length c8):=hk0.cell 4;have HK0:=lh hk0;have HB0:=lh hb0;clear hb0 hk0 hR h6 h7 h8
 go_enter Tryz.func62,Tryz.ntmps62
 go_upto_region 1 with fail
 rw[← hW,← hg];clear hW hg;have c0:=qe8 W x.machine
 cases h0:ql1 x.machine with
 | true =>
  rw[h0] at c0;have H0:=lh h0;clear h0
  go_wp2_with fail
  refine c0.mono ?_;rintro e w1 ⟨rfl,hb1⟩;have HB1:=lh (HB0.o.trans (hb1.mono HB0.o.size));have hk1:=HK0.o.below hb1 HK0.o.lt;have Mh61:Hid (LsI (qa6 ndC) 136 3 w1 A6 c6 x.stubs):=lh (Mh60.o.below (qa1 ndC) (qa0 ndC) hb1);have Mh71:Hid (LsI (qa6 ndC) 136 3 w1 A7 c7 x.scions):=lh (Mh70.o.below (qa1 ndC) (qa0 ndC) hb1);have Mh81:Hid (LsI (qa6 ndC) 136 3 w1 A8 c8 x.checks):=lh (Mh80.o.below (qa1 ndC) (qa0 ndC) hb1);have fb0:cl w1 g 0 (iv x.machine):=hk1.cell 0;have fb1:cl w1 g 1 (iv x.epoch):=hk1.cell 1;have fb2:cl w1 g 2 (.slice A6 x.stubs.length c6):=hk1.cell 2;have fb3:cl w1 g 3 (.slice A7 x.scions.length c7):=hk1.cell 3;have fb4:cl w1 g 4 (.slice A8 x.checks.length c8):=hk1.cell 4;have HK1:=lh hk1;clear hb1 hk1 c0 a0 a1 a2 a3 a4
  cases h1:decide (x.epoch ≥ 0) with
  | true =>
   have q1:decide (x.epoch ≥ 0)=true:=h1;have H1:=lh h1;clear h1;have c2:=qp6 Mh61.o
   cases h2:lmV 1024 ndV x.stubs with
   | true =>
    rw[h2] at c2;have H2:=lh h2;clear h2
    go_wp2_with fail
    refine c2.mono ?_;rintro e w2 ⟨rfl,hb2⟩;have HB2:=lh (HB1.o.trans (hb2.mono HB1.o.size));have hk2:=HK1.o.below hb2 HK1.o.lt;have Mh62:Hid (LsI (qa6 ndC) 136 3 w2 A6 c6 x.stubs):=lh (Mh61.o.below (qa1 ndC) (qa0 ndC) hb2);have Mh72:Hid (LsI (qa6 ndC) 136 3 w2 A7 c7 x.scions):=lh (Mh71.o.below (qa1 ndC) (qa0 ndC) hb2);have Mh82:Hid (LsI (qa6 ndC) 136 3 w2 A8 c8 x.checks):=lh (Mh81.o.below (qa1 ndC) (qa0 ndC) hb2);have fc0:cl w2 g 0 (iv x.machine):=hk2.cell 0;have fc1:cl w2 g 1 (iv x.epoch):=hk2.cell 1;have fc2:cl w2 g 2 (.slice A6 x.stubs.length c6):=hk2.cell 2;have fc3:cl w2 g 3 (.slice A7 x.scions.length c7):=hk2.cell 3;have fc4:cl w2 g 4 (.slice A8 x.checks.length c8):=hk2.cell 4;have HK2:=lh hk2;clear hb2 hk2 c2 fb0 fb1 fb2 fb3 fb4;have c3:=qp6 Mh72.o
    cases h3:lmV 1024 ndV x.scions with
    | true =>
     rw[h3] at c3;have H3:=lh h3;clear h3
     go_wp2_with fail
     refine c3.mono ?_;rintro e w3 ⟨rfl,hb3⟩;have HB3:=lh (HB2.o.trans (hb3.mono HB2.o.size));have hk3:=HK2.o.below hb3 HK2.o.lt;have Mh63:Hid (LsI (qa6 ndC) 136 3 w3 A6 c6 x.stubs):=lh (Mh62.o.below (qa1 ndC) (qa0 ndC) hb3);have Mh73:Hid (LsI (qa6 ndC) 136 3 w3 A7 c7 x.scions):=lh (Mh72.o.below (qa1 ndC) (qa0 ndC) hb3);have Mh83:Hid (LsI (qa6 ndC) 136 3 w3 A8 c8 x.checks):=lh (Mh82.o.below (qa1 ndC) (qa0 ndC) hb3);have fd0:cl w3 g 0 (iv x.machine):=hk3.cell 0;have fd1:cl w3 g 1 (iv x.epoch):=hk3.cell 1;have fd2:cl w3 g 2 (.slice A6 x.stubs.length c6):=hk3.cell 2;have fd3:cl w3 g 3 (.slice A7 x.scions.length c7):=hk3.cell 3;have fd4:cl w3 g 4 (.slice A8 x.checks.length c8):=hk3.cell 4;have HK3:=lh hk3;clear hb3 hk3 c3 fc0 fc1 fc2 fc3 fc4;have c4:=qp6 Mh83.o
     cases h4:lmV 1024 ndV x.checks with
     | true =>
      rw[h4] at c4;have H4:=lh h4;clear h4
      go_wp2_with fail
      refine c4.mono ?_;rintro e w4 ⟨rfl,hb4⟩;have HB4:=lh (HB3.o.trans (hb4.mono HB3.o.size));clear hb4 c4 fd0 fd1 fd2 fd3 fd4
      go_wp2_with fail
      go_ret;refine⟨cgb ?_,HB4.o⟩;rw[HR.o]
      simp[clV,H0.o,H1.o,H2.o,H3.o,H4.o]
     | false =>
      rw[h4] at c4;have H4:=lh h4;clear h4
      go_wp2_with fail
      refine c4.mono ?_;rintro e w4 ⟨rfl,hb4⟩;have HB4:=lh (HB3.o.trans (hb4.mono HB3.o.size));clear hb4 c4 fd0 fd1 fd2 fd3 fd4
      go_wp2_with fail
      go_ret;refine⟨cgb ?_,HB4.o⟩;rw[HR.o]
      simp[clV,H0.o,H1.o,H2.o,H3.o,H4.o]
    | false =>
     rw[h3] at c3;have H3:=lh h3;clear h3
     go_wp2_with fail
     refine c3.mono ?_;rintro e w3 ⟨rfl,hb3⟩;have HB3:=lh (HB2.o.trans (hb3.mono HB2.o.size));clear hb3 c3 fc0 fc1 fc2 fc3 fc4
     go_wp2_with fail
     go_ret;refine⟨cgb ?_,HB3.o⟩;rw[HR.o]
     simp[clV,H0.o,H1.o,H2.o,H3.o]
   | false =>
    rw[h2] at c2;have H2:=lh h2;clear h2
    go_wp2_with fail
    refine c2.mono ?_;rintro e w2 ⟨rfl,hb2⟩;have HB2:=lh (HB1.o.trans (hb2.mono HB1.o.size));clear hb2 c2 fb0 fb1 fb2 fb3 fb4
    go_wp2_with fail
    go_ret;refine⟨cgb ?_,HB2.o⟩;rw[HR.o]
    simp[clV,H0.o,H1.o,H2.o]
  | false =>
   have q1:decide (x.epoch ≥ 0)=false:=h1;have H1:=lh h1;clear h1
   go_wp2_with fail
   go_ret;refine⟨cgb ?_,HB1.o⟩;rw[HR.o]
   simp[clV,H0.o,H1.o]
 | false =>
  rw[h0] at c0;have H0:=lh h0;clear h0
  go_wp2_with fail
  refine c0.mono ?_;rintro e w1 ⟨rfl,hb1⟩;have HB1:=lh (HB0.o.trans (hb1.mono HB0.o.size));clear hb1 c0 a0 a1 a2 a3 a4
  go_wp2_with fail
  go_ret;refine⟨cgb ?_,HB1.o⟩;rw[HR.o]
  simp[clV,H0.o]
end
section
open Go.RowKit Go.Sort
attribute [local go_sem] Oper.semAt_some
theorem RAn_any {w:World} (x:An) {A5:Option Addr} {c5:Nat} (hl5:LsI (qa6 inC) 99 3 w A5 c5 x.inset):Calls Tryz.prog 61 #[.agg #[iv x.machine,iv x.owner,uv x.number,iv x.epoch,.bool x.known,.bool x.rooted,iv x.last,.slice A5 x.inset.length c5]] w (qe7 w (anV x)):=by
 obtain⟨R,hR⟩:∃ R,R=anV x:=⟨_,rfl⟩
 rw[← hR];have HR:=lh hR
 obtain⟨W,hW⟩:∃ W,W=w.alloc (.cells #[iv x.machine,iv x.owner,uv x.number,iv x.epoch,.bool x.known,.bool x.rooted,iv x.last,.slice A5 x.inset.length c5] 37):=⟨_,rfl⟩
 obtain⟨g,hg⟩:∃ g,g=w.heap.size:=⟨_,rfl⟩
 have hb0:bw w W:=by rw[hW];exact qa2 _ _
 have hk0:Bk W g 37 #[iv x.machine,iv x.owner,uv x.number,iv x.epoch,.bool x.known,.bool x.rooted,iv x.last,.slice A5 x.inset.length c5]:=by rw[hW,hg];exact Bk.new _ _ _
 have HB0:=lh hb0;have HK0:=lh hk0;have L50:=lh (LsI.below hl5 (qa1 inC) (qa0 inC) hb0);have n5a:=hl5.le.1;have n5b:=hl5.le.2;have aa0:cl W g 0 (iv x.machine):=hk0.cell 0;have aa1:cl W g 1 (iv x.owner):=hk0.cell 1;have aa2:cl W g 2 (uv x.number):=hk0.cell 2;have aa3:cl W g 3 (iv x.epoch):=hk0.cell 3;have aa4:cl W g 4 (.bool x.known):=hk0.cell 4;have aa5:cl W g 5 (.bool x.rooted):=hk0.cell 5;have aa6:cl W g 6 (iv x.last):=hk0.cell 6;have aa7:cl W g 7 (.slice A5 x.inset.length c5):=hk0.cell 7;clear hb0 hk0 hR hl5
 go_enter Tryz.func61,Tryz.ntmps61
 go_upto_region 1 with fail
 rw[← hW,← hg];clear hW hg
 cases h0:ql1 x.machine with
 | true =>
  have kc0:=qe8 W x.machine;rw[h0] at kc0;have H0:=lh h0;clear h0
  go_wp2_with fail
  refine kc0.mono ?_;rintro e w1 ⟨rfl,hb1⟩;have HB1:=lh (HB0.o.trans (hb1.mono HB0.o.size));have HK1:=lh (HK0.o.below hb1 HK0.o.lt);have L51:=lh (LsI.below L50.o (qa1 inC) (qa0 inC) hb1);clear hb1 kc0 aa0 aa1 aa2 aa3 aa4 aa5 aa6 aa7;have ba0:cl w1 g 0 (iv x.machine):=HK1.o.cell 0;have ba1:cl w1 g 1 (iv x.owner):=HK1.o.cell 1;have ba2:cl w1 g 2 (uv x.number):=HK1.o.cell 2;have ba3:cl w1 g 3 (iv x.epoch):=HK1.o.cell 3;have ba4:cl w1 g 4 (.bool x.known):=HK1.o.cell 4;have ba5:cl w1 g 5 (.bool x.rooted):=HK1.o.cell 5;have ba6:cl w1 g 6 (iv x.last):=HK1.o.cell 6;have ba7:cl w1 g 7 (.slice A5 x.inset.length c5):=HK1.o.cell 7
  cases h1:ql1 x.owner with
  | true =>
   have kc1:=qe8 w1 x.owner;rw[h1] at kc1;have H1:=lh h1;clear h1
   go_wp2_with fail
   refine kc1.mono ?_;rintro e w2 ⟨rfl,hb2⟩;have HB2:=lh (HB1.o.trans (hb2.mono HB1.o.size));have HK2:=lh (HK1.o.below hb2 HK1.o.lt);have L52:=lh (LsI.below L51.o (qa1 inC) (qa0 inC) hb2);clear hb2 kc1 ba0 ba1 ba2 ba3 ba4 ba5 ba6 ba7;have ca0:cl w2 g 0 (iv x.machine):=HK2.o.cell 0;have ca1:cl w2 g 1 (iv x.owner):=HK2.o.cell 1;have ca2:cl w2 g 2 (uv x.number):=HK2.o.cell 2;have ca3:cl w2 g 3 (iv x.epoch):=HK2.o.cell 3;have ca4:cl w2 g 4 (.bool x.known):=HK2.o.cell 4;have ca5:cl w2 g 5 (.bool x.rooted):=HK2.o.cell 5;have ca6:cl w2 g 6 (iv x.last):=HK2.o.cell 6;have ca7:cl w2 g 7 (.slice A5 x.inset.length c5):=HK2.o.cell 7
   cases h2:decide (x.epoch < 0) with
   | true =>
    have q2:decide (x.epoch < 0)=true:=h2;have H2:=lh h2;clear h2
    go_wp2_with fail
    go_ret;refine⟨cgb ?_,HB2.o⟩;rw[HR.o]
    simp[anV,lmV,H0.o,H1.o,Int.not_le.2 (of_decide_eq_true H2.o)]
   | false =>
    have q2:decide (x.epoch < 0)=false:=h2;have H2:=lh h2;clear h2
    cases h3:decide (x.last < 0) with
    | true =>
     have q3:decide (x.last < 0)=true:=h3;have H3:=lh h3;clear h3
     go_wp2_with fail
     go_ret;refine⟨cgb ?_,HB2.o⟩;rw[HR.o]
     simp[anV,lmV,H0.o,H1.o,Int.not_lt.1 (of_decide_eq_false H2.o),Int.not_le.2 (of_decide_eq_true H3.o)]
    | false =>
     have q3:decide (x.last < 0)=false:=h3;have H3:=lh h3;clear h3
     cases h4:decide ((1024:Int) < (x.inset.length:Int)) with
     | true =>
      have q4:decide ((1024:Int) < (x.inset.length:Int))=true:=h4;have H4:=lh h4;clear h4
      go_wp2_with fail
      go_ret;refine⟨cgb ?_,HB2.o⟩;rw[HR.o]
      simp[anV,lmV,H0.o,H1.o,Int.not_lt.1 (of_decide_eq_false H2.o),Int.not_lt.1 (of_decide_eq_false H3.o),Int.not_le.2 (of_decide_eq_true H4.o)]
     | false =>
      have q4:decide ((1024:Int) < (x.inset.length:Int))=false:=h4;have H4:=lh h4;clear h4
      go_wp2_with fail
      clear ca0 ca1 ca2 ca3 ca4 ca5 ca6 ca7
      go_loopw [3] (fun ix wr=>∃ j:Nat,ix=iv (j:Int)∧j≤x.inset.length∧(x.inset.take j).all inV=true∧bw w2 wr) (fun ix _=>x.inset.length - (intOf ix).toNat)
      case atStart=>exact⟨0,rfl,Nat.zero_le _,rfl,Below.refl _ _⟩
      case round =>
       obtain⟨j,rfl,hj,ht,hbl⟩:=hrel;have HT:=lh (And.intro ht hbl);have zx:=(HK2.o.below hbl HK2.o.lt).cell 7;simp only[List.getElem?_toArray,List.getElem?_cons_zero,List.getElem?_cons_succ] at zx;clear ht hbl
       by_cases hlt:j < x.inset.length
       ·obtain⟨p,hp⟩:∃ p,x.inset[j]?=some p:=⟨_,List.getElem?_eq_getElem hlt⟩
        obtain⟨b,o,r,hA,_,hr,hcell⟩:=L52.o.get hp;subst hA;have HP:=lh hp;have e0:cl wr b (o+j*3) (iv p.client):=(qa9 HT.o.2).1 _ _ (qa4 (hcell 0 _ (by rw[hr];rfl))) |>.trans (hcell 0 _ (by rw[hr];rfl));have e1:cl wr b (o+j*3+1) (uv p.number):=(qa9 HT.o.2).1 _ _ (qa4 (hcell 1 _ (by rw[hr];rfl))) |>.trans (hcell 1 _ (by rw[hr];rfl));have e2:cl wr b (o+j*3+2) (iv p.out):=(qa9 HT.o.2).1 _ _ (qa4 (hcell 2 _ (by rw[hr];rfl))) |>.trans (hcell 2 _ (by rw[hr];rfl));have hjc:j < c5:=by omega
        have kc:=qe8 wr p.client
        cases hv:ql1 p.client with
        | false =>
         rw[hv] at kc;have HV:=lh hv;clear hv
         go_wp2_with fail
         refine kc.mono ?_;rintro e w2 ⟨rfl,hb2⟩;have HC2:=lh (HT.o.2.trans (hb2.mono HT.o.2.size));have z2:=(HK2.o.below HC2.o HK2.o.lt).cell 7;simp only[List.getElem?_toArray,List.getElem?_cons_zero,List.getElem?_cons_succ] at z2;clear zx;have m2:cl w2 b (o+j*3+2) (iv p.out):=((qa9 hb2).1 _ _ (qa4 e2)).trans e2;clear kc hb2 hp hcell hr e0 e1 e2;have HQ:Hid (x.inset.all inV=false):=lh (by rw[List.all_eq_false];exact⟨p,List.mem_of_getElem? HP.o,by simp[inV,HV.o]⟩)
         go_wp2_with fail
         go_ret;refine⟨cgb ?_,HB2.o.trans (HC2.o.mono HB2.o.size)⟩;rw[HR.o]
         simp[anV,lmV,HQ.o]
        | true =>
         rw[hv] at kc;have HV:=lh hv;clear hv
         go_wp2_with fail
         refine kc.mono ?_;rintro e w2 ⟨rfl,hb2⟩;have HC2:=lh (HT.o.2.trans (hb2.mono HT.o.2.size));have z2:=(HK2.o.below HC2.o HK2.o.lt).cell 7;simp only[List.getElem?_toArray,List.getElem?_cons_zero,List.getElem?_cons_succ] at z2;clear zx;have m2:cl w2 b (o+j*3+2) (iv p.out):=((qa9 hb2).1 _ _ (qa4 e2)).trans e2;clear kc hb2 hp hcell hr e0 e1 e2
         cases k0:decide (p.out < 0) with
         | true =>
          have s0:decide (p.out < 0)=true:=k0;have K0:=lh k0;clear k0;have HQ:Hid (x.inset.all inV=false):=lh (by rw[List.all_eq_false];exact⟨p,List.mem_of_getElem? HP.o,by simp[inV,HV.o,Int.not_le.2 (of_decide_eq_true K0.o)]⟩)
          go_wp2_with fail
          go_ret;refine⟨cgb ?_,HB2.o.trans (HC2.o.mono HB2.o.size)⟩;rw[HR.o]
          simp[anV,lmV,HQ.o]
         | false =>
          have s0:decide (p.out < 0)=false:=k0;have K0:=lh k0;clear k0;have HQ:Hid (inV p=true):=lh (by simp[inV,HV.o,Int.not_lt.1 (of_decide_eq_false K0.o)])
          go_wp2_with fail
          go_roundw
          case rel=>exact⟨j+1,by go_num,hlt,by rw[List.take_add_one,HP.o,List.all_append,HT.o.1];simp[HQ.o],HC2.o⟩
          case measure=>simp[intOf];omega
       ·obtain rfl:j=x.inset.length:=by omega
        have HE:Hid (x.inset.all inV=true):=lh (by have:=HT.o.1;rw[List.take_length] at this;exact this);clear hlt hj
        go_wp2_with fail
        go_ret;refine⟨cgb ?_,HB2.o.trans (HT.o.2.mono HB2.o.size)⟩;rw[HR.o]
        simp[anV,lmV,HE.o,H0.o,H1.o,Int.not_lt.1 (of_decide_eq_false H2.o),Int.not_lt.1 (of_decide_eq_false H3.o),Int.not_lt.1 (of_decide_eq_false H4.o)]
  | false =>
   have kc1:=qe8 w1 x.owner;rw[h1] at kc1;have H1:=lh h1;clear h1
   go_wp2_with fail
   refine kc1.mono ?_;rintro e w2 ⟨rfl,hb2⟩;have HB2:=lh (HB1.o.trans (hb2.mono HB1.o.size));clear hb2 kc1 ba0 ba1 ba2 ba3 ba4 ba5 ba6 ba7
   go_wp2_with fail
   go_ret;refine⟨cgb ?_,HB2.o⟩;rw[HR.o]
   simp[anV,lmV,H0.o,H1.o]
 | false =>
  have kc0:=qe8 W x.machine;rw[h0] at kc0;have H0:=lh h0;clear h0
  go_wp2_with fail
  refine kc0.mono ?_;rintro e w1 ⟨rfl,hb1⟩;have HB1:=lh (HB0.o.trans (hb1.mono HB0.o.size));clear hb1 kc0 aa0 aa1 aa2 aa3 aa4 aa5 aa6 aa7
  go_wp2_with fail
  go_ret;refine⟨cgb ?_,HB1.o⟩;rw[HR.o]
  simp[anV,lmV,H0.o]
end
end Go.Proofs.YtmbnlccafcfbeaaGreatDoor
