/- Parts of the proof: RlD. -/
import Derived.Test.YtmbnlccafcfbeaaGreatDoorPgA
import Derived.Test.YtmbnlccafcfbeaaGreatDoorPg16
import Derived.Test.YtmbnlccafcfbeaaGreatDoorPg19
set_option linter.unusedVariables false
set_option linter.unusedSimpArgs false
set_option linter.unusedSectionVars false
set_option maxRecDepth 100000
set_option maxHeartbeats 64000000
namespace Go.Proofs.YtmbnlccafcfbeaaGreatDoor
section
open Go.RowKit Go.Sort
attribute [local go_sem] Oper.semAt_some
theorem Refs_any {w:World} {x:Ms} {r:List Value} (h:MsI w x r) (hx:msP x) (hle:(qe2 x).length≤2147483648):Calls Tryz.prog 23 #[.agg r.toArray] w (RfsP w (rfsV x)):=by
 have hsz:r.toArray.toList.length=39:=h.len;have hkd:=h.kind;have hV:∀ V,bw w V→Calls Tryz.prog 12 #[.agg r.toArray] V (qe5 V (msV x)):=fun V hb=>qo8 (h.below hb) hx hle;obtain⟨A1,c1,A2,c2,A3,c3,A4,c4,A5,c5,A6,c6,A7,c7,A8,c8,hr,hl1,hl2,hl3,hl4,hl5,hl6,hl7,hl8⟩:=h
 obtain⟨M,hM⟩:∃ M,M=r.toArray:=⟨_,rfl⟩
 rw[← hM] at hsz hkd hV ⊢;rw[hr] at hM;clear hr hl5 hl6 hl7 hl8;have HSZ:=lh hsz;have HKD:=lh hkd;have HM:=lh hM;have HX:=lh hx
 obtain⟨W,hW⟩:∃ W,W=w.alloc (.cells M 42):=⟨_,rfl⟩
 obtain⟨g,hg⟩:∃ g,g=w.heap.size:=⟨_,rfl⟩
 have hb0:bw w W:=by rw[hW];exact qa2 _ _
 have hk0:Bk W g 42 M:=by rw[hW,hg];exact Bk.new _ _ _
 have HB0:=lh hb0;have HK0:=lh hk0;have HL:Hid (LsI (qa6 rfC) 26 8 w A1 c1 x.letter.args∧LsI (qa6 rfC) 26 8 w A2 c2 x.parcel.fields∧LsI LtR 29 4 w A3 c3 x.parcel.mail∧LsI (qa6 waC) 65 12 w A4 c4 x.parcel.watches):=lh ⟨hl1,hl2,hl3,hl4⟩;have cV:=hV W hb0
 obtain⟨L,hL⟩:∃ L,L=rfsV x:=⟨_,rfl⟩
 rw[← hL];unfold rfsV at hL;clear hb0 hk0 hM hx hsz hkd hV hl1 hl2 hl3 hl4
 go_enter Tryz.func23,Tryz.ntmps23
 go_upto_region 1 with fail
 rw[← hW,← hg];clear hW hg;refine wp_region_list ?_;refine wpList_load_mid rfl _ _ rfl g 0 rfl M.toList _ HK0.o.rng rfl rfl (by rw[HSZ.o];rfl) ?_;simp only[Array.toArray_toList]
 cases hv:msV x with
 | false =>
  rw[hv] at cV hL;have HLE:Hid (L=[]):=lh hL;clear hL hv
  go_wp2_with fail
  refine cV.mono ?_;rintro e w2 ⟨rfl,hb2⟩;have HB2:=lh (HB0.o.trans (hb2.mono HB0.o.size));clear cV hb2
  go_wp2_with fail
  go_ret;rw[HLE.o];exact⟨none,0,rfl,LsR.tnil,HB2.o⟩
 | true =>
  rw[hv,if_pos rfl] at hL;rw[hv] at cV;have HLE:=lh hL;have HV:=lh hv;clear hL hv
  go_wp2_with fail
  refine cV.mono ?_;rintro e w2 ⟨rfl,hb2⟩;have HB2:=lh (HB0.o.trans (hb2.mono HB0.o.size));have HK2:=lh (HK0.o.below hb2 HK0.o.lt);have M1:Hid (LsI (qa6 rfC) 26 8 w2 A1 c1 x.letter.args):=lh (LsI.below HL.o.1 (qa1 rfC) (qa0 rfC) HB2.o);have M2:Hid (LsI (qa6 rfC) 26 8 w2 A2 c2 x.parcel.fields):=lh (LsI.below HL.o.2.1 (qa1 rfC) (qa0 rfC) HB2.o);have M3:Hid (LsI LtR 29 4 w2 A3 c3 x.parcel.mail):=lh (LsI.below HL.o.2.2.1 qf5 ltR_rk HB2.o);have M4:Hid (LsI (qa6 waC) 65 12 w2 A4 c4 x.parcel.watches):=lh (LsI.below HL.o.2.2.2 (qa1 waC) (qa0 waC) HB2.o);clear cV hb2;have f15:cl w2 g 15 (.slice A1 x.letter.args.length c1):=(HK2.o.cell 15).trans (by rw[HM.o];rfl);have f21:cl w2 g 21 (.slice A2 x.parcel.fields.length c2):=(HK2.o.cell 21).trans (by rw[HM.o];rfl);have f22:cl w2 g 22 (.slice A3 x.parcel.mail.length c3):=(HK2.o.cell 22).trans (by rw[HM.o];rfl);have f23:cl w2 g 23 (.slice A4 x.parcel.watches.length c4):=(HK2.o.cell 23).trans (by rw[HM.o];rfl);have nl1:x.letter.args.length≤1024:=by have:=HX.o.2.2.2.2.2.2.2.1.2.2.2.1;omega
  have nl2:x.parcel.fields.length≤1024:=by have:=HX.o.2.2.2.2.2.2.2.2.1.2.2.2.2.2.1.1;omega
  obtain⟨W3,hW3⟩:∃ W3,W3=w2.alloc (.cells #[.slice A1 x.letter.args.length c1,.slice A2 x.parcel.fields.length c2] 27):=⟨_,rfl⟩
  obtain⟨g3,hg3⟩:∃ g3,g3=w2.heap.size:=⟨_,rfl⟩
  have hb3:bw w2 W3:=by rw[hW3];exact qa2 _ _
  have hk3:Bk W3 g3 27 #[.slice A1 x.letter.args.length c1,.slice A2 x.parcel.fields.length c2]:=by rw[hW3,hg3];exact Bk.new _ _ _
  have HB3:=lh hb3;have cC:=Concat_any hk3 (LsI.below M1.o (qa1 rfC) (qa0 rfC) hb3) (LsI.below M2.o (qa1 rfC) (qa0 rfC) hb3) (by omega) (by omega);have HW3:=lh (And.intro hW3 hg3);clear hW3 hg3 hb3 hk3 nl1 nl2
  go_upto_region 4 with (go_at_call 46;rw[← HW3.o.1,← HW3.o.2];refine cC.mono ?_;rintro e w4 ⟨A4',c4',rfl,ho4,hb4⟩)
  have HB4:Hid (bw w2 w4):=lh (HB3.o.trans (hb4.mono HB3.o.size));have HK4:=lh (HK2.o.below HB4.o HK2.o.lt);have HOW:Hid (w4.ownsRow w2.heap.size 26 8 (.slice A4' (x.letter.args++x.parcel.fields).length c4') (qs3 x 0).length (ql8 (qs3 x 0))):=lh (by rw[qs2];exact qm0 ho4 HB3.o.size);clear cC ho4 hb4 f15 f21 f22 f23;have f22:cl w4 g 22 (.slice A3 x.parcel.mail.length c3):=(HK4.o.cell 22).trans (by rw[HM.o];rfl);have hm3:=M3.o.le.1;have hm3b:=M3.o.le.2
  go_wp2_with fail
  go_loopw [3,23] (fun v ix wr=>∃ k:Nat,ix=iv (k:Int)∧k≤x.parcel.mail.length∧wr.ownsRow w2.heap.size 26 8 v (qs3 x k).length (ql8 (qs3 x k))∧bw w2 wr) (fun _ ix _=>x.parcel.mail.length - (intOf ix).toNat)
  case atStart=>exact⟨0,rfl,Nat.zero_le _,(by have:=HOW.o;rw[List.length_append] at this;exact this),HB4.o⟩
  case round =>
   clear f22;obtain⟨k,rfl,hk,hown,hB⟩:=hrel;have HO:=lh hown;have HB:=lh hB;have HKr:=lh (HK2.o.below hB HK2.o.lt);clear hown hB
   by_cases hlt:k < x.parcel.mail.length
   ·obtain⟨y,hy⟩:∃ y,x.parcel.mail[k]?=some y:=⟨_,List.getElem?_eq_getElem hlt⟩
    obtain⟨b,ob,rr,hA,_,⟨A',c',hrr,hly⟩,hcell⟩:=M3.o.get hy;subst hA;have e0:cl wr b (ob+k*4) (iv y.idm):=(qa7 HB.o).1 _ _ (qa3 (hcell 0 _ (by rw[hrr];rfl))) |>.trans (hcell 0 _ (by rw[hrr];rfl));have e1:cl wr b (ob+k*4+1) (iv y.ids):=(qa7 HB.o).1 _ _ (qa3 (hcell 1 _ (by rw[hrr];rfl))) |>.trans (hcell 1 _ (by rw[hrr];rfl));have e2:cl wr b (ob+k*4+2) (.string y.meth):=(qa7 HB.o).1 _ _ (qa3 (hcell 2 _ (by rw[hrr];rfl))) |>.trans (hcell 2 _ (by rw[hrr];rfl));have e3:cl wr b (ob+k*4+3) (.slice A' y.args.length c'):=(qa7 HB.o).1 _ _ (qa3 (hcell 3 _ (by rw[hrr];rfl))) |>.trans (hcell 3 _ (by rw[hrr];rfl));have HY:=lh hy;have nn:=rfsA_len HX.o (k+1);rw[qo0 hy,List.length_append] at nn;have hkc:k < c3:=by omega
    obtain⟨V,hV⟩:∃ V,V=wr.alloc (.cells #[iv y.idm,iv y.ids,.string y.meth,.slice A' y.args.length c'] 29):=⟨_,rfl⟩
    obtain⟨gv,hgv⟩:∃ gv,gv=wr.heap.size:=⟨_,rfl⟩
    have hbv:bw wr V:=by rw[hV];exact qa2 _ _
    have hkv:Bk V gv 29 #[iv y.idm,iv y.ids,.string y.meth,.slice A' y.args.length c']:=by rw[hV,hgv];exact Bk.new _ _ _
    have a3:cl V gv 3 (.slice A' y.args.length c'):=hkv.cell 3;have HBV:Hid (bw w2 V):=lh (HB.o.trans (hbv.mono HB.o.size));have HOV:=lh (qh5 HO.o fun q hq=>hbv.block q (HO.o.lt q hq).2);have HLY:=lh (LsI.below (show LsI (qa6 rfC) 26 8 w2 A' c' y.args from hly) (qa1 rfC) (qa0 rfC) HBV.o);clear hy hcell hrr hly hbv hkv
    go_upto_region 7 with fail
    rw[← hV,← hgv];clear hV hgv e0 e1 e2 e3
    go_wp2_with (at_builtin;refine qc1 rfl (.tmp 27) (.tmp 29) rfl w2.heap.size _ _ _ rfl HOV.o _ _ y.args rfl HLY.o (by omega) HBV.o.size ?_;intro v5 w5 hown5 hg5;have HO5:=lh hown5;have HG5:=lh hg5;clear hown5 hg5)
    have HBZ:Hid (bw w2 w5):=lh (HBV.o.grown HG5.o HBV.o.size fun q hq=>(HOV.o.lt q hq).1);have HOZ:Hid (w5.ownsRow w2.heap.size 26 8 v5 (qs3 x (k+1)).length (ql8 (qs3 x (k+1)))):=lh (by rw[qo0 HY.o,List.length_append,qd4];exact HO5.o)
    go_roundw
    case rel=>exact⟨k+1,by go_num,hlt,HOZ.o,HBZ.o⟩
    case measure=>simp[intOf];omega
   ·obtain rfl:k=x.parcel.mail.length:=by omega
    have HOY:Hid (wr.ownsRow w2.heap.size 26 8 u3 (qq4 x 0).length (ql8 (qq4 x 0))):=lh (by rw[rfsB_zero];exact HO.o);clear hlt hm3 hm3b;have hm4:=M4.o.le.1;have f23:cl wr g 23 (.slice A4 x.parcel.watches.length c4):=(HKr.o.cell 23).trans (by rw[HM.o];rfl)
    go_wp2_with fail
    clear f23
    go_loopw [3,36] (fun v ix wr=>∃ k:Nat,ix=iv (k:Int)∧k≤x.parcel.watches.length∧wr.ownsRow w2.heap.size 26 8 v (qq4 x k).length (ql8 (qq4 x k))∧bw w2 wr) (fun _ ix _=>x.parcel.watches.length - (intOf ix).toNat)
    case atStart=>exact⟨0,rfl,Nat.zero_le _,HOY.o,HB.o⟩
    case round =>
     clear hm4;obtain⟨k,rfl,hk,hown,hB2⟩:=hrel;have HO2:=lh hown;have HBt:=lh hB2;have HKt:=lh (HK2.o.below hB2 HK2.o.lt);have hm4:=M4.o.le.1;have hm4b:=M4.o.le.2;clear hown hB2
     by_cases hlt:k < x.parcel.watches.length
     ·obtain⟨y,hy⟩:∃ y,x.parcel.watches[k]?=some y:=⟨_,List.getElem?_eq_getElem hlt⟩
      obtain⟨b,ob,rr,hA,_,hrr,hcell⟩:=M4.o.get hy;subst hA;have hrr':rr=waC y:=hrr;have e0:cl wr b (ob+k*12) (iv y.idm):=(qa7 HBt.o).1 _ _ (qa3 (hcell 0 _ (by rw[hrr'];rfl))) |>.trans (hcell 0 _ (by rw[hrr'];rfl));have e1:cl wr b (ob+k*12+1) (iv y.ids):=(qa7 HBt.o).1 _ _ (qa3 (hcell 1 _ (by rw[hrr'];rfl))) |>.trans (hcell 1 _ (by rw[hrr'];rfl));have e2:cl wr b (ob+k*12+2) (.string y.meth):=(qa7 HBt.o).1 _ _ (qa3 (hcell 2 _ (by rw[hrr'];rfl))) |>.trans (hcell 2 _ (by rw[hrr'];rfl));have e3:cl wr b (ob+k*12+3) (iv y.key):=(qa7 HBt.o).1 _ _ (qa3 (hcell 3 _ (by rw[hrr'];rfl))) |>.trans (hcell 3 _ (by rw[hrr'];rfl));have e4:cl wr b (ob+k*12+4) (iv y.tgt.kind):=(qa7 HBt.o).1 _ _ (qa3 (hcell 4 _ (by rw[hrr'];rfl))) |>.trans (hcell 4 _ (by rw[hrr'];rfl));have e5:cl wr b (ob+k*12+5) (iv y.tgt.int):=(qa7 HBt.o).1 _ _ (qa3 (hcell 5 _ (by rw[hrr'];rfl))) |>.trans (hcell 5 _ (by rw[hrr'];rfl));have e6:cl wr b (ob+k*12+6) (iv y.tgt.owner):=(qa7 HBt.o).1 _ _ (qa3 (hcell 6 _ (by rw[hrr'];rfl))) |>.trans (hcell 6 _ (by rw[hrr'];rfl));have e7:cl wr b (ob+k*12+7) (uv y.tgt.number):=(qa7 HBt.o).1 _ _ (qa3 (hcell 7 _ (by rw[hrr'];rfl))) |>.trans (hcell 7 _ (by rw[hrr'];rfl));have e8:cl wr b (ob+k*12+8) (iv y.tgt.idm):=(qa7 HBt.o).1 _ _ (qa3 (hcell 8 _ (by rw[hrr'];rfl))) |>.trans (hcell 8 _ (by rw[hrr'];rfl));have e9:cl wr b (ob+k*12+9) (iv y.tgt.ids):=(qa7 HBt.o).1 _ _ (qa3 (hcell 9 _ (by rw[hrr'];rfl))) |>.trans (hcell 9 _ (by rw[hrr'];rfl));have e10:cl wr b (ob+k*12+10) (iv y.tgt.cls):=(qa7 HBt.o).1 _ _ (qa3 (hcell 10 _ (by rw[hrr'];rfl))) |>.trans (hcell 10 _ (by rw[hrr'];rfl));have e11:cl wr b (ob+k*12+11) (.bool y.tgt.weak):=(qa7 HBt.o).1 _ _ (qa3 (hcell 11 _ (by rw[hrr'];rfl))) |>.trans (hcell 11 _ (by rw[hrr'];rfl));have HY:=lh hy;have nn:=qq7 HX.o k;have hkc:k < c4:=by omega
      clear hy hcell hrr hrr'
      obtain⟨V,hV⟩:∃ V,V=wr.alloc (.cells #[iv y.idm,iv y.ids,.string y.meth,iv y.key,iv y.tgt.kind,iv y.tgt.int,iv y.tgt.owner,uv y.tgt.number,iv y.tgt.idm,iv y.tgt.ids,iv y.tgt.cls,.bool y.tgt.weak] 65):=⟨_,rfl⟩
      obtain⟨gv,hgv⟩:∃ gv,gv=wr.heap.size:=⟨_,rfl⟩
      have hbv:bw wr V:=by rw[hV];exact qa2 _ _
      have hkv:Bk V gv 65 #[iv y.idm,iv y.ids,.string y.meth,iv y.key,iv y.tgt.kind,iv y.tgt.int,iv y.tgt.owner,uv y.tgt.number,iv y.tgt.idm,iv y.tgt.ids,iv y.tgt.cls,.bool y.tgt.weak]:=by rw[hV,hgv];exact Bk.new _ _ _
      have a0:cl V gv 4 (iv y.tgt.kind):=hkv.cell 4;have a1:cl V gv 5 (iv y.tgt.int):=hkv.cell 5;have a2:cl V gv 6 (iv y.tgt.owner):=hkv.cell 6;have a3:cl V gv 7 (uv y.tgt.number):=hkv.cell 7;have a4:cl V gv 8 (iv y.tgt.idm):=hkv.cell 8;have a5:cl V gv 9 (iv y.tgt.ids):=hkv.cell 9;have a6:cl V gv 10 (iv y.tgt.cls):=hkv.cell 10;have a7:cl V gv 11 (.bool y.tgt.weak):=hkv.cell 11;have HBV:Hid (bw w2 V):=lh (HBt.o.trans (hbv.mono HBt.o.size));have HOV:=lh (qh5 HO2.o fun q hq=>hbv.block q (HO2.o.lt q hq).2);clear hbv hkv
      go_upto_region 12 with fail
      rw[← hV,← hgv];clear hV hgv e0 e1 e2 e3 e4 e5 e6 e7 e8 e9 e10 e11
      go_wp2_with (at_builtin;refine qc1 rfl (.tmp 40) (.tmp 43) rfl w2.heap.size _ _ _ rfl (HOV.o.alloc _) (some ⟨V.heap.size,0,none⟩) 1 [y.tgt] rfl (qp6 V y.tgt) (by show _+1≤_;omega) (by simp;have:=HBV.o.size;omega) ?_;intro v6 w6 hown6 hg6;have HO6:=lh hown6;have HG6:=lh hg6;clear hown6 hg6)
      have HBZ:Hid (bw w2 w6):=lh ((HBV.o.alloc HBV.o.size _).grown HG6.o (by simp;have:=HBV.o.size;omega) fun q hq=>(HOV.o.lt q hq).1);have HOZ:Hid (w6.ownsRow w2.heap.size 26 8 v6 (qq4 x (k+1)).length (ql8 (qq4 x (k+1)))):=lh (by rw[rfsB_succ HY.o,List.length_append,qd4];exact HO6.o)
      go_roundw
      case rel=>exact⟨k+1,by go_num,hlt,HOZ.o,HBZ.o⟩
      case measure=>simp[intOf];omega
     ·obtain rfl:k=x.parcel.watches.length:=by omega
      have nn:=qq7 HX.o x.parcel.watches.length;clear hlt hm4 hm4b;have f4:cl wr g 4 (iv x.ref.kind):=(HKt.o.cell 4).trans (by rw[HM.o];rfl);have f5:cl wr g 5 (iv x.ref.int):=(HKt.o.cell 5).trans (by rw[HM.o];rfl);have f6:cl wr g 6 (iv x.ref.owner):=(HKt.o.cell 6).trans (by rw[HM.o];rfl);have f7:cl wr g 7 (uv x.ref.number):=(HKt.o.cell 7).trans (by rw[HM.o];rfl);have f8:cl wr g 8 (iv x.ref.idm):=(HKt.o.cell 8).trans (by rw[HM.o];rfl);have f9:cl wr g 9 (iv x.ref.ids):=(HKt.o.cell 9).trans (by rw[HM.o];rfl);have f10:cl wr g 10 (iv x.ref.cls):=(HKt.o.cell 10).trans (by rw[HM.o];rfl);have f11:cl wr g 11 (.bool x.ref.weak):=(HKt.o.cell 11).trans (by rw[HM.o];rfl)
      by_cases hq:x.ref.kind=0
      ·have HF:Hid (L=qq4 x x.parcel.watches.length):=lh (by rw[HLE.o,if_pos hq,List.append_nil]);rw[hq] at f4;clear hq
       go_wp2_with fail
       go_ret;have ho:=HO2.o;obtain⟨A',c',rfl,_⟩:=qb4 ho;rw[HF.o];exact⟨A',c',rfl,qn2 ho (by omega),HB2.o.trans (HBt.o.mono HB2.o.size)⟩
      ·have HF:Hid (L=qq4 x x.parcel.watches.length++[x.ref]):=lh (by rw[HLE.o,if_neg hq]);have q1:decide (x.ref.kind=0)=false:=decide_eq_false hq;have q2:decide (x.ref.kind≠0)=true:=decide_eq_true hq;have q4:(x.ref.kind == 0)=false:=by simpa using hq
       have q5:(x.ref.kind != 0)=true:=by simpa using hq
       go_wp2_with (at_builtin;refine qc1 rfl (.tmp 50) (.tmp 53) rfl w2.heap.size _ _ _ rfl (HO2.o.alloc _) (some ⟨wr.heap.size,0,none⟩) 1 [x.ref] rfl (qp6 wr x.ref) (by show _+1≤_;omega) (by simp;have:=HBt.o.size;omega) ?_;intro v7 w7 hown7 hg7;have HO7:=lh hown7;have HG7:=lh hg7;clear hown7 hg7)
       go_ret;have HBZ:bw w2 w7:=(HBt.o.alloc HBt.o.size _).grown HG7.o (by simp;have:=HBt.o.size;omega) fun q hq=>(HO2.o.lt q hq).1;have ho:=HO7.o;rw[← qd4] at ho;obtain⟨A',c',rfl,_⟩:=qb4 ho;rw[HF.o];exact⟨A',c',by rw[List.length_append];rfl,qn2 (by rw[List.length_append];exact ho) (by rw[List.length_append];show _+1≤_;omega),HB2.o.trans (HBZ.mono HB2.o.size)⟩
end
end Go.Proofs.YtmbnlccafcfbeaaGreatDoor
