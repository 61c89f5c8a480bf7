/- Parts of the proof: RlC, RtF, RlE, LwH, OpenK, OpenM. -/
import Derived.Deep.DeepCutAuto
import Derived.Deep.Fields
import Derived.Deep.RegionWith
import Derived.Deep.Slices
import Derived.Laws.BytesArg
import Derived.Lib.ItoaLen
import Derived.OpenShut
import Derived.ProofKit
import Derived.SizedLaws
import Derived.Test.YtmbnlccafcfbeaaGreatDoorChecked
import Derived.Test.YtmbnlccafcfbeaaGreatDoorPgA
import Derived.Test.YtmbnlccafcfbeaaGreatDoorPg10
import Derived.Test.YtmbnlccafcfbeaaGreatDoorPg16
import Derived.Test.YtmbnlccafcfbeaaGreatDoorPg19
import Derived.Test.YtmbnlccafcfbeaaGreatDoorPg20
import Derived.Test.YtmbnlccafcfbeaaGreatDoorPg23
set_option linter.unusedVariables false
set_option linter.unusedSimpArgs false
set_option linter.unusedSectionVars false
set_option maxRecDepth 100000
set_option maxHeartbeats 64000000
namespace Go.Proofs.YtmbnlccafcfbeaaGreatDoor
section
open Go.RowKit Go.Sort
attribute [local go_sem] Oper.semAt_some
theorem ref_kind {x:Ms} (h:msV x=true):(x.ref.kind=0↔¬ (x.kind=4 ∨ x.kind=7 ∨ x.kind=17)):=by
 unfold msV at h;simp only[Bool.and_eq_true,decide_eq_true_eq] at h;obtain⟨⟨hk,ho⟩,hn⟩:=h
 obtain⟨k,hkk⟩:∃ k:Nat,x.kind=k:=⟨x.kind.toNat,by omega⟩
 rw[hkk,Int.toNat_natCast] at ho hn;have hk18:k < 18:=by omega
 have hz:(qi6 k x).ref.kind=0→x.ref.kind=0:=fun h=>by rw[hn] at h;exact h
 rcases (show k=0 ∨ k=1 ∨ k=2 ∨ k=3 ∨ k=4 ∨ k=5 ∨ k=6 ∨ k=7 ∨ k=8 ∨ k=9 ∨ k=10 ∨ k=11 ∨ k=12 ∨ k=13 ∨ k=14 ∨ k=15 ∨ k=16 ∨ k=17 by omega) with rfl | rfl | rfl | rfl | rfl | rfl | rfl | rfl | rfl | rfl | rfl | rfl | rfl | rfl | rfl | rfl | rfl | rfl
 ·exact⟨fun _=>by omega,fun _=>hz rfl⟩
 ·exact⟨fun _=>by omega,fun _=>hz rfl⟩
 ·exact⟨fun _=>by omega,fun _=>hz rfl⟩
 ·exact⟨fun _=>by omega,fun _=>hz rfl⟩
 ·have h4:ok4 x=true:=ho;unfold ok4 at h4;rw[Bool.and_eq_true] at h4;have h5:x.ref.kind=3:=by simpa using h4.2
  exact⟨fun h=>by omega,fun h=>absurd (by omega) h⟩
 ·exact⟨fun _=>by omega,fun _=>hz rfl⟩
 ·exact⟨fun _=>by omega,fun _=>hz rfl⟩
 ·have h4:ok4 x=true:=ho;unfold ok4 at h4;rw[Bool.and_eq_true] at h4;have h5:x.ref.kind=3:=by simpa using h4.2
  exact⟨fun h=>by omega,fun h=>absurd (by omega) h⟩
 ·exact⟨fun _=>by omega,fun _=>hz rfl⟩
 ·exact⟨fun _=>by omega,fun _=>hz rfl⟩
 ·exact⟨fun _=>by omega,fun _=>hz rfl⟩
 ·exact⟨fun _=>by omega,fun _=>hz rfl⟩
 ·exact⟨fun _=>by omega,fun _=>hz rfl⟩
 ·exact⟨fun _=>by omega,fun _=>hz rfl⟩
 ·exact⟨fun _=>by omega,fun _=>hz rfl⟩
 ·exact⟨fun _=>by omega,fun _=>hz rfl⟩
 ·exact⟨fun _=>by omega,fun _=>hz rfl⟩
 ·have h4:qk8 x=true:=ho;unfold qk8 at h4;rw[Bool.and_eq_true] at h4;have h5:=of_decide_eq_true h4.2;exact⟨fun h=>by omega,fun h=>absurd (by omega) h⟩
theorem RRefs_of {w:World} {x:Ms} {r:List Value} (h:MsI w x r) (hx:msP x) (hV:∀ V,bw w V→Calls Tryz.prog 36 #[.agg r.toArray] V (qe5 V (msV x))):Calls Tryz.prog 25 #[.agg r.toArray] w (RfsP w (rfsV x)):=by
 have hsz:r.toArray.toList.length=39:=h.len;have hkd:=h.kind;have hrk:=ref_kind (x:=x);obtain⟨A1,c1,A2,c2,A3,c3,A4,c4,A5,c5,A6,c6,A7,c7,A8,c8,hr,hl1,hl2,hl3,hl4,hl5,hl6,hl7,hl8⟩:=h
 obtain⟨M,hM⟩:∃ M,M=r.toArray:=⟨_,rfl⟩
 rw[← hM] at hsz hkd hV ⊢;rw[hr] at hM;clear hr hl5 hl6 hl7 hl8;have HSZ:=lh hsz;have HKD:=lh hkd;have HM:=lh hM;have HX:=lh hx
 obtain⟨W,hW⟩:∃ W,W=w.alloc (.cells M 42):=⟨_,rfl⟩
 obtain⟨g,hg⟩:∃ g,g=w.heap.size:=⟨_,rfl⟩
 have hb0:bw w W:=by rw[hW];exact qa2 _ _
 have hk0:Bk W g 42 M:=by rw[hW,hg];exact Bk.new _ _ _
 have HB0:=lh hb0;have HK0:=lh hk0;have HL:Hid (LsI (qa6 rfC) 26 8 w A1 c1 x.letter.args∧LsI (qa6 rfC) 26 8 w A2 c2 x.parcel.fields∧LsI LtR 29 4 w A3 c3 x.parcel.mail∧LsI (qa6 waC) 65 12 w A4 c4 x.parcel.watches):=lh ⟨hl1,hl2,hl3,hl4⟩;have cV:=hV W hb0
 obtain⟨L,hL⟩:∃ L,L=rfsV x:=⟨_,rfl⟩
 rw[← hL];unfold rfsV at hL;clear hb0 hk0 hM hx hsz hkd hV hl1 hl2 hl3 hl4
 go_enter Tryz.func25,Tryz.ntmps25
 go_upto_region 1 with fail
 rw[← hW,← hg];clear hW hg;refine wp_region_list ?_;refine wpList_load_mid rfl _ _ rfl g 0 rfl M.toList _ HK0.o.rng rfl rfl (by rw[HSZ.o];rfl) ?_;simp only[Array.toArray_toList]
 cases hv:msV x with
 | false =>
  rw[hv] at cV hL;have HLE:Hid (L=[]):=lh hL;clear hL hv
  go_wp2_with fail
  refine cV.mono ?_;rintro e w2 ⟨rfl,hb2⟩;have HB2:=lh (HB0.o.trans (hb2.mono HB0.o.size));clear cV hb2
  go_wp2_with fail
  go_ret;rw[HLE.o];exact⟨none,0,rfl,LsR.tnil,HB2.o⟩
 | true =>
  rw[hv,if_pos rfl] at hL;rw[hv] at cV;have HLE:=lh hL;have HV:=lh hv;clear hL hv
  go_wp2_with fail
  refine cV.mono ?_;rintro e w2 ⟨rfl,hb2⟩;have HB2:=lh (HB0.o.trans (hb2.mono HB0.o.size));have HK2:=lh (HK0.o.below hb2 HK0.o.lt);have M1:Hid (LsI (qa6 rfC) 26 8 w2 A1 c1 x.letter.args):=lh (LsI.below HL.o.1 (qa1 rfC) (qa0 rfC) HB2.o);have M2:Hid (LsI (qa6 rfC) 26 8 w2 A2 c2 x.parcel.fields):=lh (LsI.below HL.o.2.1 (qa1 rfC) (qa0 rfC) HB2.o);have M3:Hid (LsI LtR 29 4 w2 A3 c3 x.parcel.mail):=lh (LsI.below HL.o.2.2.1 qf5 ltR_rk HB2.o);have M4:Hid (LsI (qa6 waC) 65 12 w2 A4 c4 x.parcel.watches):=lh (LsI.below HL.o.2.2.2 (qa1 waC) (qa0 waC) HB2.o);clear cV hb2;have HRK:=lh (hrk HV.o);clear hrk;have HE0:Hid (∀ V:World,bw w2 V→(V.alloc (.cells #[] 26)).ownsRow w2.heap.size 26 8 (.slice (some ⟨V.heap.size,0,none⟩) 0 0) 0 []):=lh fun V hb=>World.ownsRow_made V #[] 0 hb.size (by unfold maxLen;omega) rfl;have HBA:Hid (bw w2 (w2.alloc (.cells #[] 26))):=lh (qa2 _ _);have HOA:=lh (HE0.o w2 (Below.refl _ _));have M1A:=lh (LsI.below M1.o (qa1 rfC) (qa0 rfC) HBA.o);have f15:(w2.alloc (.cells #[] 26)).cell? ⟨g,15,none⟩=some (.slice A1 x.letter.args.length c1):=((HK2.o.below HBA.o HK2.o.lt).cell 15).trans (by rw[HM.o];rfl);have nl1:x.letter.args.length≤1024:=by have:=HX.o.2.2.2.2.2.2.2.1.2.2.2.1;omega
  have nl2:x.parcel.fields.length≤1024:=by have:=HX.o.2.2.2.2.2.2.2.2.1.2.2.2.2.2.1.1;omega
  go_upto_region 4 with (at_builtin;refine qc1 rfl (.tmp 9) (.tmp 12) rfl w2.heap.size _ _ _ rfl HOA.o _ _ x.letter.args rfl M1A.o (by omega) HBA.o.size ?_;intro v3 w3 hown3 hg3;have HO3:=lh hown3;have HG3:=lh hg3;clear hown3 hg3)
  have HB3:Hid (bw w2 w3):=lh (HBA.o.grown HG3.o HBA.o.size fun q hq=>(HOA.o.lt q hq).1);have HK3:=lh (HK2.o.below HB3.o HK2.o.lt);have M2B:=lh (LsI.below M2.o (qa1 rfC) (qa0 rfC) HB3.o);clear f15;have f21:cl w3 g 21 (.slice A2 x.parcel.fields.length c2):=(HK3.o.cell 21).trans (by rw[HM.o];rfl)
  go_upto_region 5 with (at_builtin;refine qc1 rfl (.tmp 14) (.tmp 17) rfl w2.heap.size _ _ _ rfl HO3.o _ _ x.parcel.fields rfl M2B.o (by omega) HB3.o.size ?_;intro v4 w4 hown4 hg4;have HO4:=lh hown4;have HG4:=lh hg4;clear hown4 hg4)
  have HB4:Hid (bw w2 w4):=lh (HB3.o.grown HG4.o HB3.o.size fun q hq=>(HO3.o.lt q hq).1)
  have HOW:Hid (w4.ownsRow w2.heap.size 26 8 v4 (qs3 x 0).length (ql8 (qs3 x 0))):=lh (by
   have:=HO4.o;rw[List.nil_append,← qd4,← qs2,show 0+x.letter.args.length+x.parcel.fields.length=(qs3 x 0).length by rw[qs2,List.length_append];omega] at this
   exact this)
  clear f21 nl1 nl2
  go_wp2_with fail
  go_loopw [3,4] (fun v ix wr=>∃ k:Nat,ix=iv (k:Int)∧k≤x.parcel.mail.length∧wr.ownsRow w2.heap.size 26 8 v (qs3 x k).length (ql8 (qs3 x k))∧bw w2 wr) (fun _ ix _=>x.parcel.mail.length - (intOf ix).toNat)
  case atStart=>exact⟨0,rfl,Nat.zero_le _,HOW.o,HB4.o⟩
  case round =>
   obtain⟨k,rfl,hk,hown,hB⟩:=hrel;have HO:=lh hown;have HB:=lh hB;have HKr:=lh (HK2.o.below hB HK2.o.lt);have hm3:=M3.o.le.1;have hm3b:=M3.o.le.2;clear hown hB;have f22:cl wr g 22 (.slice A3 x.parcel.mail.length c3):=(HKr.o.cell 22).trans (by rw[HM.o];rfl)
   by_cases hlt:k < x.parcel.mail.length
   ·obtain⟨y,hy⟩:∃ y,x.parcel.mail[k]?=some y:=⟨_,List.getElem?_eq_getElem hlt⟩
    obtain⟨b,ob,rr,hA,_,⟨A',c',hrr,hly⟩,hcell⟩:=M3.o.get hy;subst hA;have e0:cl wr b (ob+k*4+3) (.slice A' y.args.length c'):=(qa7 HB.o).1 _ _ (qa3 (hcell 3 _ (by rw[hrr];rfl))) |>.trans (hcell 3 _ (by rw[hrr];rfl));have HY:=lh hy;have HLY:=lh (LsI.below (show LsI (qa6 rfC) 26 8 w2 A' c' y.args from hly) (qa1 rfC) (qa0 rfC) HB.o);have nn:=rfsA_len HX.o (k+1);rw[qo0 hy,List.length_append] at nn;have hkc:k < c3:=by omega
    clear hy hcell hrr hly
    go_wp2_with (at_builtin;refine qc1 rfl (.tmp 27) (.tmp 34) rfl w2.heap.size _ _ _ rfl HO.o _ _ y.args rfl HLY.o (by omega) HB.o.size ?_;intro v5 w5 hown5 hg5;have HO5:=lh hown5;have HG5:=lh hg5;clear hown5 hg5)
    have HBZ:Hid (bw w2 w5):=lh (HB.o.grown HG5.o HB.o.size fun q hq=>(HO.o.lt q hq).1);have HOZ:Hid (w5.ownsRow w2.heap.size 26 8 v5 (qs3 x (k+1)).length (ql8 (qs3 x (k+1)))):=lh (by rw[qo0 HY.o,List.length_append,qd4];exact HO5.o)
    go_roundw
    case rel=>exact⟨k+1,by go_num,hlt,HOZ.o,HBZ.o⟩
    case measure=>simp[intOf];omega
   ·obtain rfl:k=x.parcel.mail.length:=by omega
    have HOY:Hid (wr.ownsRow w2.heap.size 26 8 u3 (qq4 x 0).length (ql8 (qq4 x 0))):=lh (by rw[rfsB_zero];exact HO.o);clear hlt hm3 hm3b
    go_wp2_with fail
    clear f22
    go_loopw [3,5] (fun v ix wr=>∃ k:Nat,ix=iv (k:Int)∧k≤x.parcel.watches.length∧wr.ownsRow w2.heap.size 26 8 v (qq4 x k).length (ql8 (qq4 x k))∧bw w2 wr) (fun _ ix _=>x.parcel.watches.length - (intOf ix).toNat)
    case atStart=>exact⟨0,rfl,Nat.zero_le _,HOY.o,HB.o⟩
    case round =>
     obtain⟨k,rfl,hk,hown,hB2⟩:=hrel;have HO2:=lh hown;have HBt:=lh hB2;have HKt:=lh (HK2.o.below hB2 HK2.o.lt);have hm4:=M4.o.le.1;have hm4b:=M4.o.le.2;clear hown hB2;have f23:cl wr g 23 (.slice A4 x.parcel.watches.length c4):=(HKt.o.cell 23).trans (by rw[HM.o];rfl)
     by_cases hlt:k < x.parcel.watches.length
     ·obtain⟨y,hy⟩:∃ y,x.parcel.watches[k]?=some y:=⟨_,List.getElem?_eq_getElem hlt⟩
      obtain⟨b,ob,rr,hA,_,hrr,hcell⟩:=M4.o.get hy;subst hA;have hrr':rr=waC y:=hrr;have e4:cl wr b (ob+k*12+4) (iv y.tgt.kind):=(qa7 HBt.o).1 _ _ (qa3 (hcell 4 _ (by rw[hrr'];rfl))) |>.trans (hcell 4 _ (by rw[hrr'];rfl));have e5:cl wr b (ob+k*12+5) (iv y.tgt.int):=(qa7 HBt.o).1 _ _ (qa3 (hcell 5 _ (by rw[hrr'];rfl))) |>.trans (hcell 5 _ (by rw[hrr'];rfl));have e6:cl wr b (ob+k*12+6) (iv y.tgt.owner):=(qa7 HBt.o).1 _ _ (qa3 (hcell 6 _ (by rw[hrr'];rfl))) |>.trans (hcell 6 _ (by rw[hrr'];rfl));have e7:cl wr b (ob+k*12+7) (uv y.tgt.number):=(qa7 HBt.o).1 _ _ (qa3 (hcell 7 _ (by rw[hrr'];rfl))) |>.trans (hcell 7 _ (by rw[hrr'];rfl));have e8:cl wr b (ob+k*12+8) (iv y.tgt.idm):=(qa7 HBt.o).1 _ _ (qa3 (hcell 8 _ (by rw[hrr'];rfl))) |>.trans (hcell 8 _ (by rw[hrr'];rfl));have e9:cl wr b (ob+k*12+9) (iv y.tgt.ids):=(qa7 HBt.o).1 _ _ (qa3 (hcell 9 _ (by rw[hrr'];rfl))) |>.trans (hcell 9 _ (by rw[hrr'];rfl));have e10:cl wr b (ob+k*12+10) (iv y.tgt.cls):=(qa7 HBt.o).1 _ _ (qa3 (hcell 10 _ (by rw[hrr'];rfl))) |>.trans (hcell 10 _ (by rw[hrr'];rfl));have e11:cl wr b (ob+k*12+11) (.bool y.tgt.weak):=(qa7 HBt.o).1 _ _ (qa3 (hcell 11 _ (by rw[hrr'];rfl))) |>.trans (hcell 11 _ (by rw[hrr'];rfl));have HY:=lh hy;have nn:=qq7 HX.o k;have hkc:k < c4:=by omega
      clear hy hcell hrr hrr'
      go_wp2_with (at_builtin;refine qc1 rfl (.tmp 44) (.tmp 52) rfl w2.heap.size _ _ _ rfl (HO2.o.alloc _) (some ⟨wr.heap.size,0,none⟩) 1 [y.tgt] rfl (qp6 wr y.tgt) (by show _+1≤_;omega) (by simp;have:=HBt.o.size;omega) ?_;intro v6 w6 hown6 hg6;have HO6:=lh hown6;have HG6:=lh hg6;clear hown6 hg6)
      have HBZ:Hid (bw w2 w6):=lh ((HBt.o.alloc HBt.o.size _).grown HG6.o (by simp;have:=HBt.o.size;omega) fun q hq=>(HO2.o.lt q hq).1);have HOZ:Hid (w6.ownsRow w2.heap.size 26 8 v6 (qq4 x (k+1)).length (ql8 (qq4 x (k+1)))):=lh (by rw[rfsB_succ HY.o,List.length_append,qd4];exact HO6.o)
      go_roundw
      case rel=>exact⟨k+1,by go_num,hlt,HOZ.o,HBZ.o⟩
      case measure=>simp[intOf];omega
     ·obtain rfl:k=x.parcel.watches.length:=by omega
      have nn:=qq7 HX.o x.parcel.watches.length;clear hlt hm4 hm4b;have f0:cl wr g 0 (iv x.kind):=(HKt.o.cell 0).trans (by rw[HM.o];rfl);have f4:cl wr g 4 (iv x.ref.kind):=(HKt.o.cell 4).trans (by rw[HM.o];rfl);have f5:cl wr g 5 (iv x.ref.int):=(HKt.o.cell 5).trans (by rw[HM.o];rfl);have f6:cl wr g 6 (iv x.ref.owner):=(HKt.o.cell 6).trans (by rw[HM.o];rfl);have f7:cl wr g 7 (uv x.ref.number):=(HKt.o.cell 7).trans (by rw[HM.o];rfl);have f8:cl wr g 8 (iv x.ref.idm):=(HKt.o.cell 8).trans (by rw[HM.o];rfl);have f9:cl wr g 9 (iv x.ref.ids):=(HKt.o.cell 9).trans (by rw[HM.o];rfl);have f10:cl wr g 10 (iv x.ref.cls):=(HKt.o.cell 10).trans (by rw[HM.o];rfl);have f11:cl wr g 11 (.bool x.ref.weak):=(HKt.o.cell 11).trans (by rw[HM.o];rfl)
      by_cases hq:x.kind=4 ∨ x.kind=7 ∨ x.kind=17
      ·have HF:Hid (L=qq4 x x.parcel.watches.length++[x.ref]):=lh (by rw[HLE.o,if_neg (fun h=>HRK.o.1 h hq)]);rcases hq with hq | hq | hq
       ·rw[hq] at f0;clear hq
        go_wp2_with (at_builtin;refine qc1 rfl (.tmp 67) (.tmp 70) rfl w2.heap.size _ _ _ rfl (HO2.o.alloc _) (some ⟨wr.heap.size,0,none⟩) 1 [x.ref] rfl (qp6 wr x.ref) (by show _+1≤_;omega) (by simp;have:=HBt.o.size;omega) ?_;intro v7 w7 hown7 hg7;have HO7:=lh hown7;have HG7:=lh hg7;clear hown7 hg7)
        go_ret;have HBZ:bw w2 w7:=(HBt.o.alloc HBt.o.size _).grown HG7.o (by simp;have:=HBt.o.size;omega) fun q hq=>(HO2.o.lt q hq).1;have ho:=HO7.o;rw[← qd4] at ho;obtain⟨A',c',rfl,_⟩:=qb4 ho;rw[HF.o];exact⟨A',c',by rw[List.length_append];rfl,qn2 (by rw[List.length_append];exact ho) (by rw[List.length_append];show _+1≤_;omega),HB2.o.trans (HBZ.mono HB2.o.size)⟩
       ·rw[hq] at f0;clear hq
        go_wp2_with (at_builtin;refine qc1 rfl (.tmp 67) (.tmp 70) rfl w2.heap.size _ _ _ rfl (HO2.o.alloc _) (some ⟨wr.heap.size,0,none⟩) 1 [x.ref] rfl (qp6 wr x.ref) (by show _+1≤_;omega) (by simp;have:=HBt.o.size;omega) ?_;intro v7 w7 hown7 hg7;have HO7:=lh hown7;have HG7:=lh hg7;clear hown7 hg7)
        go_ret;have HBZ:bw w2 w7:=(HBt.o.alloc HBt.o.size _).grown HG7.o (by simp;have:=HBt.o.size;omega) fun q hq=>(HO2.o.lt q hq).1;have ho:=HO7.o;rw[← qd4] at ho;obtain⟨A',c',rfl,_⟩:=qb4 ho;rw[HF.o];exact⟨A',c',by rw[List.length_append];rfl,qn2 (by rw[List.length_append];exact ho) (by rw[List.length_append];show _+1≤_;omega),HB2.o.trans (HBZ.mono HB2.o.size)⟩
       ·rw[hq] at f0;clear hq
        go_wp2_with (at_builtin;refine qc1 rfl (.tmp 67) (.tmp 70) rfl w2.heap.size _ _ _ rfl (HO2.o.alloc _) (some ⟨wr.heap.size,0,none⟩) 1 [x.ref] rfl (qp6 wr x.ref) (by show _+1≤_;omega) (by simp;have:=HBt.o.size;omega) ?_;intro v7 w7 hown7 hg7;have HO7:=lh hown7;have HG7:=lh hg7;clear hown7 hg7)
        go_ret;have HBZ:bw w2 w7:=(HBt.o.alloc HBt.o.size _).grown HG7.o (by simp;have:=HBt.o.size;omega) fun q hq=>(HO2.o.lt q hq).1;have ho:=HO7.o;rw[← qd4] at ho;obtain⟨A',c',rfl,_⟩:=qb4 ho;rw[HF.o];exact⟨A',c',by rw[List.length_append];rfl,qn2 (by rw[List.length_append];exact ho) (by rw[List.length_append];show _+1≤_;omega),HB2.o.trans (HBZ.mono HB2.o.size)⟩
      ·have HF:Hid (L=qq4 x x.parcel.watches.length):=lh (by rw[HLE.o,if_pos (HRK.o.2 hq),List.append_nil]);have q1:decide (x.kind=4)=false:=decide_eq_false fun h=>hq (.inl h);have q2:decide (x.kind=7)=false:=decide_eq_false fun h=>hq (.inr (.inl h));have q3:decide (x.kind=17)=false:=decide_eq_false fun h=>hq (.inr (.inr h));have q4:(x.kind == 4)=false:=by simpa using fun h=>hq (.inl h)
       have q5:(x.kind == 7)=false:=by simpa using fun h=>hq (.inr (.inl h))
       have q6:(x.kind == 17)=false:=by simpa using fun h=>hq (.inr (.inr h))
       clear hq
       go_wp2_with fail
       go_ret;have ho:=HO2.o;obtain⟨A',c',rfl,_⟩:=qb4 ho;rw[HF.o];exact⟨A',c',rfl,qn2 ho (by omega),HB2.o.trans (HBt.o.mono HB2.o.size)⟩
end
section
open Go.RowKit Go.Sort
attribute [local go_sem] Oper.semAt_some
theorem all_rfV {l:List Rf} (h:l.all plV=true):∀ y∈l,rfV y=true:=fun y hy=>by
 have:=List.all_eq_true.1 h y hy;unfold plV at this;exact(Bool.and_eq_true _ _ ▸ this).1
theorem pc_facts {x:Pc} (h:pcV x=true):idV x.idm x.ids=true∧0≤x.cls∧∀ y∈x.fields,rfV y=true:=by
 unfold pcV at h;rw[Bool.and_eq_true] at h;refine⟨h.1,?_⟩
 have hob:qn8 x=true→0≤x.cls∧∀ y∈x.fields,rfV y=true:=fun ho=>by
  unfold qn8 lmV at ho;simp only[Bool.and_eq_true,decide_eq_true_eq] at ho;exact⟨by omega,all_rfV ho.2.2⟩
 have h2:=h.2
 split at h2
 ·rw[Bool.and_eq_true] at h2;exact hob h2.1
 ·split at h2
  ·rw[Bool.and_eq_true,Bool.and_eq_true] at h2;exact hob h2.1.1
  ·split at h2
   ·rw[Bool.and_eq_true,Bool.and_eq_true] at h2;have hc:x.cls=0:=by simpa using h2.1.1
    refine⟨by omega,?_⟩;have hw:=h2.1.2;unfold wk1 at hw
    split at hw
    ·rename_i f hf
     rw[hf];intro y hy;obtain rfl:=List.mem_singleton.1 hy;unfold wkV at hw;rw[Bool.and_eq_true] at hw;exact hw.1
    ·cases hw
   ·cases h2
theorem ms_facts {x:Ms} (h:msV x=true):∃ k:Nat,x.kind=k∧k < 18∧okV k x=true∧qi6 k x=x:=by
 unfold msV at h;simp only[Bool.and_eq_true,decide_eq_true_eq] at h;exact⟨x.kind.toNat,by omega,by omega,h.1.2,h.2⟩
end
section
open Go.RowKit Go.Sort
attribute [local go_sem] Oper.semAt_some
theorem RRefs_any {w:World} {x:Ms} {r:List Value} (h:MsI w x r) (hx:msP x):Calls Tryz.prog 25 #[.agg r.toArray] w (RfsP w (rfsV x)):=RRefs_of h hx fun V hb=>RValid_any (h.below hb)
theorem only_letter {k:Nat} (hk:k < 18) (h0:k≠0) (x:Ms):(qi6 k x).letter=Ms.zero.letter:=by
 rcases (show k=0 ∨ k=1 ∨ k=2 ∨ k=3 ∨ k=4 ∨ k=5 ∨ k=6 ∨ k=7 ∨ k=8 ∨ k=9 ∨ k=10 ∨ k=11 ∨ k=12 ∨ k=13 ∨ k=14 ∨ k=15 ∨ k=16 ∨ k=17 by omega) with rfl | rfl | rfl | rfl | rfl | rfl | rfl | rfl | rfl | rfl | rfl | rfl | rfl | rfl | rfl | rfl | rfl | rfl <;> first | rfl | exact absurd rfl h0
theorem only_parcel {k:Nat} (hk:k < 18) (h0:k≠1) (x:Ms):(qi6 k x).parcel=Ms.zero.parcel:=by
 rcases (show k=0 ∨ k=1 ∨ k=2 ∨ k=3 ∨ k=4 ∨ k=5 ∨ k=6 ∨ k=7 ∨ k=8 ∨ k=9 ∨ k=10 ∨ k=11 ∨ k=12 ∨ k=13 ∨ k=14 ∨ k=15 ∨ k=16 ∨ k=17 by omega) with rfl | rfl | rfl | rfl | rfl | rfl | rfl | rfl | rfl | rfl | rfl | rfl | rfl | rfl | rfl | rfl | rfl | rfl <;> first | rfl | exact absurd rfl h0
theorem only_ref {k:Nat} (hk:k < 18) (h0:¬ (k=4 ∨ k=7 ∨ k=17)) (x:Ms):(qi6 k x).ref=Ms.zero.ref:=by
 rcases (show k=0 ∨ k=1 ∨ k=2 ∨ k=3 ∨ k=4 ∨ k=5 ∨ k=6 ∨ k=7 ∨ k=8 ∨ k=9 ∨ k=10 ∨ k=11 ∨ k=12 ∨ k=13 ∨ k=14 ∨ k=15 ∨ k=16 ∨ k=17 by omega) with rfl | rfl | rfl | rfl | rfl | rfl | rfl | rfl | rfl | rfl | rfl | rfl | rfl | rfl | rfl | rfl | rfl | rfl <;> first | rfl | exact absurd (by decide) h0
theorem pl_rfV {y:Rf} (h:plV y=true):rfV y=true:=by
 unfold plV at h;rw[Bool.and_eq_true] at h;exact h.1
theorem pc_more {x:Pc} (h:pcV x=true):(∀ z∈x.mail,∀ y∈z.args,rfV y=true)∧∀ z∈x.watches,rfV z.tgt=true:=by
 unfold pcV at h;rw[Bool.and_eq_true] at h;have h2:=h.2
 have hb:qj9 x=true→(∀ z∈x.mail,∀ y∈z.args,rfV y=true)∧∀ z∈x.watches,rfV z.tgt=true:=fun ho=>by
  unfold qj9 at ho;simp only[Bool.and_eq_true,beq_iff_eq] at ho;have e1:x.mail=[]:=List.eq_nil_of_length_eq_zero (by omega);have e2:x.watches=[]:=List.eq_nil_of_length_eq_zero (by omega);rw[e1,e2];exact⟨fun z hz=>(by cases hz),fun z hz=>(by cases hz)⟩
 split at h2
 ·rw[Bool.and_eq_true] at h2;exact hb h2.2
 ·split at h2
  ·rw[Bool.and_eq_true,Bool.and_eq_true] at h2;have hm:=h2.1.2;have hw:=h2.2;unfold lmV at hm hw;rw[Bool.and_eq_true] at hm hw;refine⟨fun z hz=>?_,fun z hz=>?_⟩
   ·have:=List.all_eq_true.1 hm.2 z hz;unfold ltV at this;simp only[Bool.and_eq_true] at this;exact all_rfV this.2.2
   ·have:=List.all_eq_true.1 hw.2 z hz;unfold waV wkV at this;simp only[Bool.and_eq_true] at this;exact this.2.1
  ·split at h2
   ·rw[Bool.and_eq_true] at h2;exact hb h2.2
   ·cases h2
theorem rfs_valid {x:Ms}:∀ y∈rfsV x,rfV y=true:=by
 unfold rfsV
 by_cases hv:msV x=true
 ·rw[if_pos hv];obtain⟨k,hk,hk18,hok,hon⟩:=ms_facts hv
  have h1:∀ y∈x.letter.args,rfV y=true:=by
   by_cases h0:k=0
   ·subst h0;have hl:ltV x.letter=true:=hok;unfold ltV at hl;simp only[Bool.and_eq_true] at hl;exact all_rfV hl.2.2
   ·rw[← hon,only_letter hk18 h0];intro y hy;cases hy
  have h2:(∀ y∈x.parcel.fields,rfV y=true)∧(∀ z∈x.parcel.mail,∀ y∈z.args,rfV y=true)∧∀ z∈x.parcel.watches,rfV z.tgt=true:=by
   by_cases h0:k=1
   ·subst h0;exact⟨(pc_facts (x:=x.parcel) hok).2.2,(pc_more (x:=x.parcel) hok).1,(pc_more (x:=x.parcel) hok).2⟩
   ·rw[← hon,only_parcel hk18 h0];exact⟨fun y hy=>(by cases hy),fun y hy=>(by cases hy),fun y hy=>(by cases hy)⟩
  have h3:x.ref.kind≠0→rfV x.ref=true:=by
   by_cases h0:k=4 ∨ k=7 ∨ k=17
   ·intro _;rcases h0 with rfl | rfl | rfl
    ·have hl:ok4 x=true:=hok;unfold ok4 at hl;rw[Bool.and_eq_true] at hl;exact pl_rfV hl.1
    ·have hl:ok4 x=true:=hok;unfold ok4 at hl;rw[Bool.and_eq_true] at hl;exact pl_rfV hl.1
    ·have hl:qk8 x=true:=hok;unfold qk8 at hl;rw[Bool.and_eq_true,Bool.and_eq_true] at hl;exact pl_rfV hl.1.2
   ·rw[← hon,only_ref hk18 h0];exact fun h=>absurd rfl h
  unfold qq4 qs3;rw[List.take_length,List.take_length];intro y hy;simp only[List.mem_append,List.mem_flatMap,List.mem_map] at hy;rcases hy with (((h | h) | ⟨z,hz,h⟩) | ⟨z,hz,rfl⟩) | h
  ·exact h1 y h
  ·exact h2.1 y h
  ·exact h2.2.1 z hz y h
  ·exact h2.2.2 z hz
  ·split at h
   ·cases h
   ·rename_i hn
    obtain rfl:=List.mem_singleton.1 h;exact h3 hn
 ·rw[if_neg hv];intro y hy;cases hy
end
section
open Go.RowKit Go.Sort
attribute [local go_sem] Oper.semAt_some
theorem LLst_any {w:World} {x:Ms} {r:List Value} (h:MsI w x r) (hxt:msT x) (ht:Tb w):Calls Tryz.prog 9 #[.agg r.toArray] w (qe5 w true):=by
 have hsz:r.toArray.toList.length=39:=h.len
 obtain⟨M,hM⟩:∃ M,M=r.toArray:=⟨_,rfl⟩
 rw[← hM] at hsz ⊢;have HM:=lh hM;have HSZ:=lh hsz
 obtain⟨W,hW⟩:∃ W,W=w.alloc (.cells M 42):=⟨_,rfl⟩
 obtain⟨g,hg⟩:∃ g,g=w.heap.size:=⟨_,rfl⟩
 have hb0:bw w W:=by rw[hW];exact qa2 _ _
 have HK0:Hid (Bk W g 42 M):=lh (by rw[hW,hg];exact Bk.new _ _ _);have HB0:=lh hb0;have HI0:=lh (h.below hb0);have HT0:=lh (ht.below hb0);have HTT:=lh hxt;clear hb0 h hxt ht hM hsz
 go_enter Tryz.func9,Tryz.ntmps9
 go_upto_region 1 with fail
 rw[← hW,← hg];clear hW hg
 go_wp2_with fail
 refine(awake27 _ HT0.o).mono ?_;rintro e w1 ⟨rfl,hb1⟩;have HB1:=lh (HB0.o.trans (hb1.mono HB0.o.size));have HK1:=lh (HK0.o.below hb1 HK0.o.lt);have HI1:=lh (HI0.o.below hb1);have HT1:=lh (HT0.o.below hb1);clear hb1;have cF:Calls Tryz.prog 11 #[.agg M] w1 (qe5 w1 (fewV x)):=by rw[HM.o];exact Few_any HI1.o
 go_upto_region 3 with fail
 refine wp_region_list ?_;refine wpList_load_mid rfl _ _ rfl g 0 rfl M.toList _ HK1.o.rng rfl rfl (by rw[HSZ.o];rfl) ?_;simp only[Array.toArray_toList]
 cases hf:fewV x with
 | false =>
  rw[hf] at cF;clear hf
  go_wp2_with fail
  refine cF.mono ?_;rintro e w2 ⟨rfl,hb2⟩;have HB2:=lh (HB1.o.trans (hb2.mono HB1.o.size));clear cF hb2
  go_wp2_with fail
  go_ret;exact⟨rfl,HB2.o⟩
 | true =>
  rw[hf] at cF;have HPX:=lh (few_p HTT.o hf);clear hf
  go_wp2_with fail
  refine cF.mono ?_;rintro e w2 ⟨rfl,hb2⟩;have HB2:=lh (HB1.o.trans (hb2.mono HB1.o.size));have HK2:=lh (HK1.o.below hb2 HK1.o.lt);have HI2:=lh (HI1.o.below hb2);have HT2:=lh (HT1.o.below hb2);clear cF hb2;have cR:Calls Tryz.prog 23 #[.agg M] w2 (RfsP w2 (rfsV x)):=by rw[HM.o];exact Refs_any HI2.o HPX.o (encMs_le HPX.o)
  obtain⟨L,hL⟩:∃ L,L=rfsV x:=⟨_,rfl⟩
  have HV:Hid (∀ y∈L,rfV y=true):=lh (by rw[hL];exact rfs_valid);have HRR:Hid (∀ V,bw w2 V→Calls Tryz.prog 25 #[.agg M] V (RfsP V L)):=lh fun V hb=>by rw[hL,HM.o];exact RRefs_any (HI2.o.below hb) HPX.o
  rw[← hL] at cR;clear hL
  go_upto_region 5 with fail
  refine wp_region_list ?_;refine wpList_load_mid rfl _ _ rfl g 0 rfl M.toList _ HK2.o.rng rfl rfl (by rw[HSZ.o];rfl) ?_;simp only[Array.toArray_toList]
  go_wp2_with fail
  refine cR.mono ?_;rintro e w4 ⟨A,c,rfl,hl4,hb4⟩;have HB4:=lh hb4;have HL4:=lh hl4;have hcc:=hl4.le;have hc1:=hcc.1;have hc2:=hcc.2;clear cR hl4 hb4 hcc
  go_wp2_with fail
  go_loopw [4] (fun ix wr=>∃ k:Nat,ix=iv (k:Int)∧k≤L.length∧bw w4 wr) (fun ix _=>L.length - (intOf ix).toNat)
  case atStart=>exact⟨0,rfl,Nat.zero_le _,Below.refl _ _⟩
  case round =>
   obtain⟨k,rfl,hk,hB⟩:=hrel;have HB:=lh hB;clear hB
   by_cases hlt:k < L.length
   ·obtain⟨y,hy⟩:∃ y,L[k]?=some y:=⟨_,List.getElem?_eq_getElem hlt⟩
    obtain⟨b,ob,rr,hA,_,hrr,hcell⟩:=HL4.o.get hy;subst hA;have hrr':rr=rfC y:=hrr;have e0:cl wr b (ob+k*8) (iv y.kind):=(qa7 HB.o).1 _ _ (qa3 (hcell 0 _ (by rw[hrr'];rfl))) |>.trans (hcell 0 _ (by rw[hrr'];rfl));have e1:cl wr b (ob+k*8+1) (iv y.int):=(qa7 HB.o).1 _ _ (qa3 (hcell 1 _ (by rw[hrr'];rfl))) |>.trans (hcell 1 _ (by rw[hrr'];rfl));have e2:cl wr b (ob+k*8+2) (iv y.owner):=(qa7 HB.o).1 _ _ (qa3 (hcell 2 _ (by rw[hrr'];rfl))) |>.trans (hcell 2 _ (by rw[hrr'];rfl));have e3:cl wr b (ob+k*8+3) (uv y.number):=(qa7 HB.o).1 _ _ (qa3 (hcell 3 _ (by rw[hrr'];rfl))) |>.trans (hcell 3 _ (by rw[hrr'];rfl));have e4:cl wr b (ob+k*8+4) (iv y.idm):=(qa7 HB.o).1 _ _ (qa3 (hcell 4 _ (by rw[hrr'];rfl))) |>.trans (hcell 4 _ (by rw[hrr'];rfl));have e5:cl wr b (ob+k*8+5) (iv y.ids):=(qa7 HB.o).1 _ _ (qa3 (hcell 5 _ (by rw[hrr'];rfl))) |>.trans (hcell 5 _ (by rw[hrr'];rfl));have e6:cl wr b (ob+k*8+6) (iv y.cls):=(qa7 HB.o).1 _ _ (qa3 (hcell 6 _ (by rw[hrr'];rfl))) |>.trans (hcell 6 _ (by rw[hrr'];rfl));have e7:cl wr b (ob+k*8+7) (.bool y.weak):=(qa7 HB.o).1 _ _ (qa3 (hcell 7 _ (by rw[hrr'];rfl))) |>.trans (hcell 7 _ (by rw[hrr'];rfl));have cV:=qi7 wr y;rw[HV.o y (List.mem_of_getElem? hy)] at cV;have hkc:k < c:=by omega
    clear hy hcell hrr hrr'
    go_wp2_with fail
    refine cV.mono ?_;rintro e w5 ⟨rfl,hb5⟩;have HB5:=lh (HB.o.trans (hb5.mono HB.o.size));clear cV hb5 e0 e1 e2 e3 e4 e5 e6 e7
    go_wp2_with fail
    go_roundw
    case rel=>exact⟨k+1,by go_num,hlt,HB5.o⟩
    case measure=>simp[intOf];omega
   ·obtain rfl:k=L.length:=by omega
    have HB6:Hid (bw w2 wr):=lh (HB4.o.trans (HB.o.mono HB4.o.size));have HK6:=lh (HK2.o.below HB6.o HK2.o.lt);have HL6:=lh (LsI.below HL4.o (qa1 rfC) (qa0 rfC) HB.o);have cQ:=HRR.o wr HB6.o;clear hlt
    go_wp2_with (first | (refine qb0 rfl _ _ rfl g 0 rfl M.toList _ HK6.o.rng rfl rfl (by rw[HSZ.o];rfl) ?_;simp only[Array.toArray_toList]) | fail)
    refine cQ.mono ?_;rintro e w7 ⟨A',c',rfl,hl7,hb7⟩;have HB7:=lh (HB6.o.trans (hb7.mono HB6.o.size));have cS:=qh8 (LsI.below HL6.o (qa1 rfC) (qa0 rfC) hb7) hl7;rw[decide_eq_true rfl] at cS;clear cQ hl7 hb7
    go_wp2_with fail
    refine cS.mono ?_;rintro e w8 ⟨rfl,hb8⟩;have HB8:=lh (HB2.o.trans ((HB7.o.trans (hb8.mono HB7.o.size)).mono HB2.o.size));clear cS hb8
    go_wp2_with fail
    go_ret;exact⟨rfl,HB8.o⟩
end
section
open Go.ChangeShapes Go.WideShapes Go.ChangeAt Go.RowKit Go.Deep
def SlR {α:Type} (R:World→α→List Value→Prop) (w:World) (s:Nat) (A:Option Addr) (n:Nat) (xs:List α):Prop :=
 xs.length=n∧(n=0 ∨ ∃ b o,A=some ⟨b,o,none⟩∧b < w.heap.size∧∀ i x,xs[i]?=some x→∃ r:List Value,r.length=s∧R w x r∧∀ j v,r[j]?=some v→w.cell? ⟨b,o+i*s+j,none⟩=some v)
theorem SlR.nil {α:Type} (R:World→α→List Value→Prop) (w:World) (s:Nat) (A:Option Addr):SlR R w s A 0 []:=⟨rfl,.inl rfl⟩
theorem SlR.get {α:Type} {R:World→α→List Value→Prop} {w:World} {s n:Nat} {A:Option Addr} {xs:List α} (h:SlR R w s A n xs) {k:Nat} (hk:k < n) :
  ∃ b o x r,A=some ⟨b,o,none⟩∧b < w.heap.size∧xs[k]?=some x∧r.length=s∧R w x r∧∀ j v,r[j]?=some v→w.cell? ⟨b,o+k*s+j,none⟩=some v:=by
 rcases h.2 with h0 | ⟨b,o,hA,hb,hc⟩
 ·omega
 ·obtain⟨x,hx⟩:∃ x,xs[k]?=some x:=⟨_,List.getElem?_eq_getElem (by rw[h.1];exact hk)⟩
  obtain⟨r,h1,h2,h3⟩:=hc k x hx;exact⟨b,o,x,r,hA,hb,hx,h1,h2,h3⟩
def Wgt {H:Type} (P:Program) (t:TypeId) (d:DataW H):Prop:=∀ n∈d.weights P t,n≤reachBytes
theorem weightsAll_mem {H:Type} {P:Program} {e:TypeId} {l:List (DataW H)} {d:DataW H} (hd:d∈l) {n:Nat} (hn:n∈d.weights P e):n∈DataW.weightsAll P e l:=by
 induction l with
 | nil=>cases hd
 | cons a r ih =>
  unfold DataW.weightsAll;rcases List.mem_cons.1 hd with rfl | h
  ·exact List.mem_append_left _ hn
  ·exact List.mem_append_right _ (ih h)
theorem ql0 {H:Type} {P:Program}:∀ {ts:List TypeId} {l:List (DataW H)} (i:Nat) {t:TypeId} {d:DataW H},ts[i]?=some t→l[i]?=some d→∀ {n:Nat},n∈d.weights P t→n∈DataW.weightsEach P ts l
 | [],_,i,t,d,ht,_,n,_=>by cases ht
 | _::_,[],i,t,d,_,hd,n,_=>by cases hd
 | a::ts,b::l,0,t,d,ht,hd,n,hn=>by
  simp at ht hd;subst ht;subst hd
  unfold DataW.weightsEach;exact List.mem_append_left _ hn
 | a::ts,b::l,i+1,t,d,ht,hd,n,hn=>by
  unfold DataW.weightsEach;exact List.mem_append_right _ (ql0 i (by simpa using ht) (by simpa using hd) hn)
theorem Wgt.part {H:Type} {P:Program} {t:TypeId} {fs:Array Field} (ht:P.underlying t=some (.struct fs)) {parts:List (DataW H)} (h:Wgt P t (.agg parts)) (i:Nat) {f:Field} {d:DataW H} (hf:fs[i]?=some f) (hd:parts[i]?=some d):Wgt P f.type d:=fun n hn =>
 h n (by
  simp only[DataW.weights,ht]
  exact ql0 i (by simpa using ⟨f,hf,rfl⟩) hd hn)
theorem wgt_of {H:Type} {P:Program} {ts:List TypeId} {ds:List (DataW H)} (h:(DataW.weightsEach P ts ds).all (·≤reachBytes)=true) {j:Nat} {t:TypeId} {d:DataW H} (ht:ts[j]?=some t) (hd:ds[j]?=some d):Wgt P t d :=
 fun n hn=>by simpa using List.all_eq_true.1 h n (DataW.weights_mem_each ht hd n hn)
section
variable {H:Type} {enc:TypeId × Value→H} {w:World} {base:Nat} {spare:Nat→Bool} {held:Bool}
theorem spot_of_cell {a:Addr} {v:Value} (h:w.cell? a=some v):a=⟨a.block,a.off,none⟩:=by
 have:=World.cell?_spot h;cases a
 simp_all
theorem qv0 {α:Type} {p:Nat→α→Prop}:∀ n,(∀ i,i < n→∃ x,p i x)→∃ l:List α,l.length=n∧∀ i x,l[i]?=some x→p i x
 | 0,_=>⟨[],rfl,fun i x h=>by cases h⟩
 | n+1,h=>by
  obtain⟨l,h1,h2⟩:=qv0 n (fun i hi=>h i (by omega));obtain⟨x,hx⟩:=h n (by omega);refine⟨l++[x],by simp[h1],fun i y hy=>?_⟩
  by_cases hi:i < n
  ·rw[List.getElem?_append_left (by omega)] at hy;exact h2 i y hy
  ·have hin:i=n:=by
    have:=(List.getElem?_eq_some_iff.1 hy).1
    simp[h1] at this
    omega
   subst hin;rw[List.getElem?_append_right (by omega),h1] at hy
   simp at hy
   exact hy ▸ hx
theorem SlR.all {α:Type} {R:World→α→List Value→Prop} {s n:Nat} {A:Option Addr} {xs:List α} (h:SlR R w s A n xs) {P:α→Prop} (hP:∀ x r,R w x r→P x):∀ x∈xs,P x:=fun x hx=>by
 obtain⟨i,hi⟩:=List.mem_iff_getElem?.1 hx;have hil:=(List.getElem?_eq_some_iff.1 hi).1;obtain⟨b,o,y,r,_,_,hy,_,hR,_⟩:=h.get (k:=i) (by rw[← h.1];exact hil);rw[hi] at hy;cases hy;exact hP _ _ hR
/-- one reference -/
def RfR (w:World) (x:Rf) (r:List Value):Prop:=r=rfC x∧rfP x
theorem qr5:Tryz.prog.cellsOf 26=8:=by kernel_rfl
theorem qh7:Tryz.prog.cellsOf 3=1:=by kernel_rfl
theorem cellsI64:Tryz.prog.cellsOf 2=1:=by kernel_rfl
theorem qm2:Tryz.prog.cellsOf 22=1:=by kernel_rfl
theorem cellsB:Tryz.prog.cellsOf 4=1:=by kernel_rfl
theorem cellsID:Tryz.prog.cellsOf 24=2:=by kernel_rfl
theorem wfI {x:Int} (h:(Lit.int .i64 x).wf=true):I64 x:=by
 simp only[Lit.wf,Bool.and_eq_true,decide_eq_true_eq] at h;have e1:IntKind.i64.min=-9223372036854775808:=rfl;have e2:IntKind.i64.max=9223372036854775807:=rfl;rw[e1,e2] at h;exact⟨h.1,h.2⟩
theorem wfU {x:Int} (h:(Lit.int .u64 x).wf=true):P64 x:=by
 simp only[Lit.wf,Bool.and_eq_true,decide_eq_true_eq] at h;have e1:IntKind.u64.min=0:=rfl;have e2:IntKind.u64.max=18446744073709551615:=rfl;rw[e1,e2] at h;unfold P64
 omega
theorem qq9 {n:Nat} {cs:List Value} {x:DataW H × List MemPlace} (hlen:cs.length=2) (h:DataW.trod enc Tryz.prog w base spare held n 24 cs=some x):∃ a b,cs=[.int .i64 a,.int .i64 b]∧I64 a∧I64 b:=by
 obtain⟨xs,n,_,rfl,_,hxl,hg⟩:=DataW.trod_struct Tryz.underlying24 h
 match cs,hlen with
 | [u0,u1],_ =>
  match xs,hxl with
  | [y0,y1],_ =>
   have h0:DataW.trod enc Tryz.prog w base spare held n 3 (([u0,u1].drop 0).take (Tryz.prog.cellsOf 3))=some y0:=hg 0 _ rfl;have h1:DataW.trod enc Tryz.prog w base spare held n 3 (([u0,u1].drop 1).take (Tryz.prog.cellsOf 3))=some y1:=hg 1 _ rfl;rw[qh7] at h0 h1;obtain⟨a,e0,_,w0⟩:=DataW.trod_int Tryz.underlying3 (show DataW.trod enc Tryz.prog w base spare held n 3 [u0]=some y0 from h0);obtain⟨b,e1,_,w1⟩:=DataW.trod_int Tryz.underlying3 (show DataW.trod enc Tryz.prog w base spare held n 3 [u1]=some y1 from h1);simp only[List.cons.injEq,and_true] at e0 e1;subst e0 e1;exact⟨a,b,rfl,wfI w0,wfI w1⟩
theorem qs5 (fuel:Nat) (cs:List Value) (x:DataW H × List MemPlace) (hlen:cs.length=8) (h:DataW.trod enc Tryz.prog w base spare held fuel 26 cs=some x) (_:Wgt Tryz.prog 26 x.1):∃ y,RfR w y cs:=by
 obtain⟨xs,n,_,rfl,_,hxl,hg⟩:=DataW.trod_struct Tryz.underlying26 h
 match cs,hlen with
 | [u0,u1,u2,u3,u4,u5,u6,u7],_ =>
  match xs,hxl with
  | [y0,y1,y2,y3,y4,y5,y6],_ =>
   have h0:DataW.trod enc Tryz.prog w base spare held n 3 (([u0,u1,u2,u3,u4,u5,u6,u7].drop 0).take (Tryz.prog.cellsOf 3))=some y0:=hg 0 _ rfl;have h1:DataW.trod enc Tryz.prog w base spare held n 2 (([u0,u1,u2,u3,u4,u5,u6,u7].drop 1).take (Tryz.prog.cellsOf 2))=some y1:=hg 1 _ rfl;have h2:DataW.trod enc Tryz.prog w base spare held n 3 (([u0,u1,u2,u3,u4,u5,u6,u7].drop 2).take (Tryz.prog.cellsOf 3))=some y2:=hg 2 _ rfl;have h3:DataW.trod enc Tryz.prog w base spare held n 22 (([u0,u1,u2,u3,u4,u5,u6,u7].drop 3).take (Tryz.prog.cellsOf 22))=some y3:=hg 3 _ rfl;have h4:DataW.trod enc Tryz.prog w base spare held n 24 (([u0,u1,u2,u3,u4,u5,u6,u7].drop 4).take (Tryz.prog.cellsOf 24))=some y4:=hg 4 _ rfl;have h5:DataW.trod enc Tryz.prog w base spare held n 3 (([u0,u1,u2,u3,u4,u5,u6,u7].drop 6).take (Tryz.prog.cellsOf 3))=some y5:=hg 5 _ rfl;have h6:DataW.trod enc Tryz.prog w base spare held n 4 (([u0,u1,u2,u3,u4,u5,u6,u7].drop 7).take (Tryz.prog.cellsOf 4))=some y6:=hg 6 _ rfl;rw[qh7] at h0 h2 h5;rw[cellsI64] at h1;rw[qm2] at h3;rw[cellsID] at h4;rw[cellsB] at h6;obtain⟨a0,e0,_,w0⟩:=DataW.trod_int Tryz.underlying3 (show DataW.trod enc Tryz.prog w base spare held n 3 [u0]=some y0 from h0);obtain⟨a1,e1,_,w1⟩:=DataW.trod_int Tryz.underlying2 (show DataW.trod enc Tryz.prog w base spare held n 2 [u1]=some y1 from h1);obtain⟨a2,e2,_,w2⟩:=DataW.trod_int Tryz.underlying3 (show DataW.trod enc Tryz.prog w base spare held n 3 [u2]=some y2 from h2);obtain⟨a3,e3,_,w3⟩:=DataW.trod_int Tryz.underlying22 (show DataW.trod enc Tryz.prog w base spare held n 22 [u3]=some y3 from h3);obtain⟨a4,b4,e4,w4,v4⟩:=qq9 (by rfl) (show DataW.trod enc Tryz.prog w base spare held n 24 [u4,u5]=some y4 from h4);obtain⟨a5,e5,_,w5⟩:=DataW.trod_int Tryz.underlying3 (show DataW.trod enc Tryz.prog w base spare held n 3 [u6]=some y5 from h5);obtain⟨a6,e6,_⟩:=DataW.trod_bool Tryz.underlying4 (show DataW.trod enc Tryz.prog w base spare held n 4 [u7]=some y6 from h6);simp only[List.cons.injEq,and_true] at e0 e1 e2 e3 e4 e5 e6;obtain⟨e4,e4'⟩:=e4;subst e0 e1 e2 e3 e4 e4' e5 e6;exact⟨⟨a0,a1,a2,a3,a4,b4,a5,a6⟩,rfl,wfI w0,wfI w2,wfI w5,wfI w1,wfU w3,w4,v4⟩
end
end
section
open Go.ChangeShapes Go.WideShapes Go.ChangeAt Go.RowKit Go.Deep
theorem qi1 {H:Type} {w:World} {xs:List (DataW H × List MemPlace)} (h:w.noneFrozen (xs.flatMap (·.2))) {y:DataW H × List MemPlace} (hy:y∈xs):w.noneFrozen y.2:=fun b o hm=>h b o (List.mem_flatMap.2 ⟨y,hy,hm⟩)
/-- the old part of the world -/
def Od (w:World) (k:Nat):Prop:=k < w.heap.size
section
variable {H:Type} {enc:TypeId × Value→H} {w:World} {base:Nat} {spare:Nat→Bool} {held:Bool}
theorem qi9 {α:Type} (R:Rel α) (T:α→Prop) {t e:TypeId} {s:Nat} (ht:Tryz.prog.underlying t=some (.slice e)) (hs:Tryz.prog.cellsOf e=s) (hb1:1≤Tryz.prog.bytesOf e) (hs0:1≤s)
  (hR:∀ fuel cs x,cs.length=s→DataW.trod enc Tryz.prog w base spare held fuel e cs=some x→Wgt Tryz.prog e x.1→w.noneFrozen x.2→∃ y,R true (Od w) w y cs∧T y)
  {fuel:Nat} {v:Value} {x:DataW H × List MemPlace} (h:DataW.trod enc Tryz.prog w base spare held fuel t [v]=some x) (hw:Wgt Tryz.prog t x.1) (hz:w.noneFrozen x.2) :
  ∃ A c l,v=.slice A (List.length l) c∧LsR R e s true (Od w) w A c l∧∀ y∈l,T y:=by
 rcases open_slice ht h with ⟨h0,_⟩ | ⟨a,len,cap,m,n,D,Pl,hcs,hb,hl,hm,hmm,hx,hi⟩
 ·simp only[List.cons.injEq,and_true] at h0;subst h0;exact⟨none,0,[],rfl,by unfold LsR;rw[if_pos rfl];exact⟨Nat.le_refl _,by simp,.inl rfl⟩,fun y hy=>by cases hy⟩
 ·simp only[List.cons.injEq,and_true] at hcs;subst hcs;have hml:len≤m:=by rw[hmm];split <;> omega
  rw[hx] at hw hz
  have hlen:len≤140737488351232:=by
   have:=hw ((len+(m - len))*Tryz.prog.bytesOf e) (by simp[DataW.weights,ht]);simp only[reachBytes] at this;have h2:(len+(m - len))*1≤(len+(m - len))*Tryz.prog.bytesOf e:=Nat.mul_le_mul_left _ hb1
   omega
  obtain⟨l,hl1,hp⟩:=qv0 (α:=α × List Value) (p:=fun i y=>y.2.length=s∧R true (Od w) w y.1 y.2∧T y.1∧∀ j v,y.2[j]?=some v→w.cell? (a.add (i*s+j))=some v) len (fun i hil=>by
   obtain⟨cs',hc,htr⟩:=hi i (by omega);rw[hs] at hc;obtain⟨_,hcl,hat⟩:=World.cells?_some hc
   have hwi:Wgt Tryz.prog e (D i,Pl i).1:=fun n hn=>hw n (by
    simp only[DataW.weights,ht];refine List.mem_cons_of_mem _ (List.mem_append_left _ (weightsAll_mem (d:=D i) ?_ hn))
    exact List.mem_map.2 ⟨i,by simpa using hil,rfl⟩)
   have hzi:w.noneFrozen (D i,Pl i).2:=fun b o hm=>hz b o (List.mem_append_right _ (List.mem_flatMap.2 ⟨i,by simpa using (show i < m by omega),hm⟩));obtain⟨y,hy,hty⟩:=hR n cs' _ hcl htr hwi hzi;refine⟨(y,cs'),hcl,hy,hty,fun j v hv=>?_⟩
   have hj:j < s:=by
    have:=(List.getElem?_eq_some_iff.1 hv).1;rw[hcl] at this;exact this
   have g:=hat j hj;rw[Go.Deep.add_add] at g;rw[← hv]
   simpa using g)
  refine⟨some a,cap,l.map (·.1),by simp[hl1],?_,fun y hy=>by
   obtain⟨q,hq,rfl⟩:=List.mem_map.1 hy;obtain⟨i,hi2⟩:=List.mem_iff_getElem?.1 hq
   exact(hp i q hi2).2.2.1⟩
  unfold LsR;rw[if_pos rfl];refine⟨by simp[hl1];exact hl,by simp[hl1];exact hlen,?_⟩;rcases Nat.eq_zero_or_pos len with h0 | h0
  ·exact .inl (by simp[hl1];exact h0)
  ·focus
    obtain⟨y0,hy0⟩:∃ y,l[0]?=some y:=⟨_,List.getElem?_eq_getElem (by omega)⟩
    obtain⟨q1,q2,_,q3⟩:=hp 0 y0 hy0
    obtain⟨v0,hv0⟩:∃ v,y0.2[0]?=some v:=⟨_,List.getElem?_eq_getElem (by omega)⟩
    have q0:=q3 0 v0 hv0
    have ea:a=⟨a.block,a.off,none⟩:=by
     have:=spot_of_cell q0
     simpa [Addr.add] using this
    have eadd:∀ n,a.add n=⟨a.block,a.off+n,none⟩:=fun n=>by
     unfold Addr.add
     split
     ·rename_i h;subst h;exact ea
     ·rfl
    refine .inr ⟨a.block,a.off,by rw[← ea],?_,fun i x hx=>?_⟩
    ·have:=qa3 q0;rw[eadd] at this;exact this
    ·obtain⟨y,hy,rfl⟩:∃ y,l[i]?=some y∧y.1=x:=by simpa using hx
     obtain⟨r1,r2,_,r3⟩:=hp i y hy;refine⟨y.2,r1,r2,fun j v hv=>?_⟩;have:=r3 j v hv;rw[eadd] at this;rw[Nat.add_assoc];refine⟨this,hz a.block (a.off+(i*s+j)) (List.mem_append_left _ ?_)⟩;have hil:i < len:=by rw[← hl1];exact(List.getElem?_eq_some_iff.1 hy).1
     have hj:j < s:=by rw[← r1];exact(List.getElem?_eq_some_iff.1 hv).1
     unfold MemPlace.row;refine List.mem_map.2 ⟨i*s+j,?_,?_⟩
     ·rw[List.mem_range,hs];have h1:(i+1)*s≤m*s:=Nat.mul_le_mul_right s (by omega);rw[Nat.succ_mul] at h1
      omega
     ·first | rfl | rw[eadd]
theorem cM_str:Tryz.prog.cellsOf 9=1:=by kernel_rfl
theorem cM_refs:Tryz.prog.cellsOf 27=1:=by kernel_rfl
theorem cM_lts:Tryz.prog.cellsOf 30=1:=by kernel_rfl
theorem cM_was:Tryz.prog.cellsOf 31=1:=by kernel_rfl
theorem cM_ins:Tryz.prog.cellsOf 35=1:=by kernel_rfl
theorem cM_nds:Tryz.prog.cellsOf 38=1:=by kernel_rfl
theorem cM_lt:Tryz.prog.cellsOf 29=4:=by kernel_rfl
theorem cM_wa:Tryz.prog.cellsOf 65=12:=by kernel_rfl
theorem cM_in:Tryz.prog.cellsOf 99=3:=by kernel_rfl
theorem cM_nd:Tryz.prog.cellsOf 136=3:=by kernel_rfl
theorem cM_pc:Tryz.prog.cellsOf 33=8:=by kernel_rfl
theorem cM_an:Tryz.prog.cellsOf 37=8:=by kernel_rfl
theorem cM_cl:Tryz.prog.cellsOf 40=5:=by kernel_rfl
theorem cM_tr:Tryz.prog.cellsOf 34=2:=by kernel_rfl
theorem cM_ms:Tryz.prog.cellsOf 42=39:=by kernel_rfl
theorem open_trR {n:Nat} {cs:List Value} {x:DataW H × List MemPlace} (hlen:cs.length=2) (h:DataW.trod enc Tryz.prog w base spare held n 34 cs=some x):∃ a b,cs=[.int .i64 a,.int .i64 b]∧I64 a∧I64 b:=by
 obtain⟨xs,n,_,rfl,_,hxl,hg⟩:=DataW.trod_struct Tryz.underlying34 h
 match cs,hlen with
 | [u0,u1],_ =>
  match xs,hxl with
  | [y0,y1],_ =>
   have h0:DataW.trod enc Tryz.prog w base spare held n 3 (([u0,u1].drop 0).take (Tryz.prog.cellsOf 3))=some y0:=hg 0 _ rfl;have h1:DataW.trod enc Tryz.prog w base spare held n 3 (([u0,u1].drop 1).take (Tryz.prog.cellsOf 3))=some y1:=hg 1 _ rfl;rw[qh7] at h0 h1;obtain⟨a,e0,_,w0⟩:=DataW.trod_int Tryz.underlying3 (show DataW.trod enc Tryz.prog w base spare held n 3 [u0]=some y0 from h0);obtain⟨b,e1,_,w1⟩:=DataW.trod_int Tryz.underlying3 (show DataW.trod enc Tryz.prog w base spare held n 3 [u1]=some y1 from h1);simp only[List.cons.injEq,and_true] at e0 e1;subst e0 e1;exact⟨a,b,rfl,wfI w0,wfI w1⟩
theorem open_refM (fuel:Nat) (cs:List Value) (x:DataW H × List MemPlace) (hlen:cs.length=8) (h:DataW.trod enc Tryz.prog w base spare held fuel 26 cs=some x) (hw:Wgt Tryz.prog 26 x.1) (_:w.noneFrozen x.2):∃ y,qa6 rfC true (Od w) w y cs∧rfP y:=by
 obtain⟨y,h1,h2⟩:=qs5 fuel cs x hlen h hw;exact⟨y,h1,h2⟩
theorem open_ltM (fuel:Nat) (cs:List Value) (x:DataW H × List MemPlace) (hlen:cs.length=4) (h:DataW.trod enc Tryz.prog w base spare held fuel 29 cs=some x) (hw:Wgt Tryz.prog 29 x.1) (hz:w.noneFrozen x.2):∃ y,LtR true (Od w) w y cs∧ltT y:=by
 obtain⟨xs,n,_,rfl,_,hxl,hg⟩:=DataW.trod_struct Tryz.underlying29 h
 match cs,hlen with
 | [u0,u1,u2,u3],_ =>
  match xs,hxl with
  | [y0,y1,y2],_ =>
   have h0:DataW.trod enc Tryz.prog w base spare held n 24 (([u0,u1,u2,u3].drop 0).take (Tryz.prog.cellsOf 24))=some y0:=hg 0 _ rfl;rw[cellsID] at h0;replace h0:DataW.trod enc Tryz.prog w base spare held n 24 [u0,u1]=some y0:=h0;have h1:DataW.trod enc Tryz.prog w base spare held n 9 (([u0,u1,u2,u3].drop 2).take (Tryz.prog.cellsOf 9))=some y1:=hg 1 _ rfl;rw[cM_str] at h1;replace h1:DataW.trod enc Tryz.prog w base spare held n 9 [u2]=some y1:=h1;have h2:DataW.trod enc Tryz.prog w base spare held n 27 (([u0,u1,u2,u3].drop 3).take (Tryz.prog.cellsOf 27))=some y2:=hg 2 _ rfl;rw[cM_refs] at h2;replace h2:DataW.trod enc Tryz.prog w base spare held n 27 [u3]=some y2:=h2;obtain⟨a0,b0,e0,w0,v0⟩:=qq9 (by rfl) h0;simp only[List.cons.injEq,and_true] at e0;obtain⟨e0,f0⟩:=e0;subst e0 f0;obtain⟨a1,e1,_,_⟩:=DataW.trod_string Tryz.underlying9 h1;simp only[List.cons.injEq,and_true] at e1;subst e1;obtain⟨A2,c2,a2,e2,w2,v2⟩:=qi9 (qa6 rfC) rfP Tryz.underlying27 qr5 (by decide +kernel) (by decide) open_refM h2 (hw.part Tryz.underlying29 2 rfl rfl) (qi1 hz (by simp));subst e2;exact⟨⟨a0,b0,a1,a2⟩,⟨A2,c2,rfl,w2⟩,w0,v0,v2⟩
theorem open_waM (fuel:Nat) (cs:List Value) (x:DataW H × List MemPlace) (hlen:cs.length=12) (h:DataW.trod enc Tryz.prog w base spare held fuel 65 cs=some x) (hw:Wgt Tryz.prog 65 x.1) (hz:w.noneFrozen x.2):∃ y,qa6 waC true (Od w) w y cs∧waT y:=by
 obtain⟨xs,n,_,rfl,_,hxl,hg⟩:=DataW.trod_struct Tryz.underlying65 h
 match cs,hlen with
 | [u0,u1,u2,u3,u4,u5,u6,u7,u8,u9,u10,u11],_ =>
  match xs,hxl with
  | [y0,y1,y2,y3],_ =>
   have h0:DataW.trod enc Tryz.prog w base spare held n 24 (([u0,u1,u2,u3,u4,u5,u6,u7,u8,u9,u10,u11].drop 0).take (Tryz.prog.cellsOf 24))=some y0:=hg 0 _ rfl;rw[cellsID] at h0;replace h0:DataW.trod enc Tryz.prog w base spare held n 24 [u0,u1]=some y0:=h0;have h1:DataW.trod enc Tryz.prog w base spare held n 9 (([u0,u1,u2,u3,u4,u5,u6,u7,u8,u9,u10,u11].drop 2).take (Tryz.prog.cellsOf 9))=some y1:=hg 1 _ rfl;rw[cM_str] at h1;replace h1:DataW.trod enc Tryz.prog w base spare held n 9 [u2]=some y1:=h1;have h2:DataW.trod enc Tryz.prog w base spare held n 2 (([u0,u1,u2,u3,u4,u5,u6,u7,u8,u9,u10,u11].drop 3).take (Tryz.prog.cellsOf 2))=some y2:=hg 2 _ rfl;rw[cellsI64] at h2;replace h2:DataW.trod enc Tryz.prog w base spare held n 2 [u3]=some y2:=h2;have h3:DataW.trod enc Tryz.prog w base spare held n 26 (([u0,u1,u2,u3,u4,u5,u6,u7,u8,u9,u10,u11].drop 4).take (Tryz.prog.cellsOf 26))=some y3:=hg 3 _ rfl;rw[qr5] at h3;replace h3:DataW.trod enc Tryz.prog w base spare held n 26 [u4,u5,u6,u7,u8,u9,u10,u11]=some y3:=h3;obtain⟨a0,b0,e0,w0,v0⟩:=qq9 (by rfl) h0;simp only[List.cons.injEq,and_true] at e0;obtain⟨e0,f0⟩:=e0;subst e0 f0;obtain⟨a1,e1,_,_⟩:=DataW.trod_string Tryz.underlying9 h1;simp only[List.cons.injEq,and_true] at e1;subst e1;obtain⟨a2,e2,_,w2⟩:=DataW.trod_int Tryz.underlying2 h2;simp only[List.cons.injEq,and_true] at e2;subst e2;replace w2:=wfI w2;obtain⟨a3,e3,w3⟩:=qs5 n _ _ (by rfl) h3 (hw.part Tryz.underlying65 3 rfl rfl);simp only[rfC,List.cons.injEq,and_true] at e3;obtain⟨f3_0,f3_1,f3_2,f3_3,f3_4,f3_5,f3_6,f3_7⟩:=e3;subst f3_0 f3_1 f3_2 f3_3 f3_4 f3_5 f3_6 f3_7;exact⟨⟨a0,b0,a1,a2,a3⟩,rfl,w0,v0,w2,w3⟩
theorem open_inM (fuel:Nat) (cs:List Value) (x:DataW H × List MemPlace) (hlen:cs.length=3) (h:DataW.trod enc Tryz.prog w base spare held fuel 99 cs=some x) (hw:Wgt Tryz.prog 99 x.1) (hz:w.noneFrozen x.2):∃ y,qa6 inC true (Od w) w y cs∧inP y:=by
 obtain⟨xs,n,_,rfl,_,hxl,hg⟩:=DataW.trod_struct Tryz.underlying99 h
 match cs,hlen with
 | [u0,u1,u2],_ =>
  match xs,hxl with
  | [y0,y1,y2],_ =>
   have h0:DataW.trod enc Tryz.prog w base spare held n 3 (([u0,u1,u2].drop 0).take (Tryz.prog.cellsOf 3))=some y0:=hg 0 _ rfl;rw[qh7] at h0;replace h0:DataW.trod enc Tryz.prog w base spare held n 3 [u0]=some y0:=h0;have h1:DataW.trod enc Tryz.prog w base spare held n 22 (([u0,u1,u2].drop 1).take (Tryz.prog.cellsOf 22))=some y1:=hg 1 _ rfl;rw[qm2] at h1;replace h1:DataW.trod enc Tryz.prog w base spare held n 22 [u1]=some y1:=h1;have h2:DataW.trod enc Tryz.prog w base spare held n 3 (([u0,u1,u2].drop 2).take (Tryz.prog.cellsOf 3))=some y2:=hg 2 _ rfl;rw[qh7] at h2;replace h2:DataW.trod enc Tryz.prog w base spare held n 3 [u2]=some y2:=h2;obtain⟨a0,e0,_,w0⟩:=DataW.trod_int Tryz.underlying3 h0;simp only[List.cons.injEq,and_true] at e0;subst e0;replace w0:=wfI w0;obtain⟨a1,e1,_,w1⟩:=DataW.trod_int Tryz.underlying22 h1;simp only[List.cons.injEq,and_true] at e1;subst e1;replace w1:=wfU w1;obtain⟨a2,e2,_,w2⟩:=DataW.trod_int Tryz.underlying3 h2;simp only[List.cons.injEq,and_true] at e2;subst e2;replace w2:=wfI w2;exact⟨⟨a0,a1,a2⟩,rfl,w0,w2,w1⟩
theorem open_ndM (fuel:Nat) (cs:List Value) (x:DataW H × List MemPlace) (hlen:cs.length=3) (h:DataW.trod enc Tryz.prog w base spare held fuel 136 cs=some x) (hw:Wgt Tryz.prog 136 x.1) (hz:w.noneFrozen x.2):∃ y,qa6 ndC true (Od w) w y cs∧ndP y:=by
 obtain⟨xs,n,_,rfl,_,hxl,hg⟩:=DataW.trod_struct Tryz.underlying136 h
 match cs,hlen with
 | [u0,u1,u2],_ =>
  match xs,hxl with
  | [y0,y1,y2],_ =>
   have h0:DataW.trod enc Tryz.prog w base spare held n 3 (([u0,u1,u2].drop 0).take (Tryz.prog.cellsOf 3))=some y0:=hg 0 _ rfl;rw[qh7] at h0;replace h0:DataW.trod enc Tryz.prog w base spare held n 3 [u0]=some y0:=h0;have h1:DataW.trod enc Tryz.prog w base spare held n 22 (([u0,u1,u2].drop 1).take (Tryz.prog.cellsOf 22))=some y1:=hg 1 _ rfl;rw[qm2] at h1;replace h1:DataW.trod enc Tryz.prog w base spare held n 22 [u1]=some y1:=h1;have h2:DataW.trod enc Tryz.prog w base spare held n 3 (([u0,u1,u2].drop 2).take (Tryz.prog.cellsOf 3))=some y2:=hg 2 _ rfl;rw[qh7] at h2;replace h2:DataW.trod enc Tryz.prog w base spare held n 3 [u2]=some y2:=h2;obtain⟨a0,e0,_,w0⟩:=DataW.trod_int Tryz.underlying3 h0;simp only[List.cons.injEq,and_true] at e0;subst e0;replace w0:=wfI w0;obtain⟨a1,e1,_,w1⟩:=DataW.trod_int Tryz.underlying22 h1;simp only[List.cons.injEq,and_true] at e1;subst e1;replace w1:=wfU w1;obtain⟨a2,e2,_,w2⟩:=DataW.trod_int Tryz.underlying3 h2;simp only[List.cons.injEq,and_true] at e2;subst e2;replace w2:=wfI w2;exact⟨⟨a0,a1,a2⟩,rfl,w0,w2,w1⟩
def PcRR (w:World) (x:Pc) (r:List Value):Prop:=∃ A2 c2 A3 c3 A4 c4,r=[uv x.number,iv x.idm,iv x.ids,iv x.kind,iv x.cls,.slice A2 x.fields.length c2,.slice A3 x.mail.length c3,.slice A4 x.watches.length c4]∧LsR (qa6 rfC) 26 8 true (Od w) w A2 c2 x.fields∧LsR LtR 29 4 true (Od w) w A3 c3 x.mail∧LsR (qa6 waC) 65 12 true (Od w) w A4 c4 x.watches
def AnRR (w:World) (x:An) (r:List Value):Prop:=∃ A5 c5,r=[iv x.machine,iv x.owner,uv x.number,iv x.epoch,.bool x.known,.bool x.rooted,iv x.last,.slice A5 x.inset.length c5]∧LsR (qa6 inC) 99 3 true (Od w) w A5 c5 x.inset
def ClRR (w:World) (x:Cl) (r:List Value):Prop:=∃ A6 c6 A7 c7 A8 c8,r=[iv x.machine,iv x.epoch,.slice A6 x.stubs.length c6,.slice A7 x.scions.length c7,.slice A8 x.checks.length c8]∧LsR (qa6 ndC) 136 3 true (Od w) w A6 c6 x.stubs∧LsR (qa6 ndC) 136 3 true (Od w) w A7 c7 x.scions∧LsR (qa6 ndC) 136 3 true (Od w) w A8 c8 x.checks
theorem open_pcM (fuel:Nat) (cs:List Value) (x:DataW H × List MemPlace) (hlen:cs.length=8) (h:DataW.trod enc Tryz.prog w base spare held fuel 33 cs=some x) (hw:Wgt Tryz.prog 33 x.1) (hz:w.noneFrozen x.2):∃ y,PcRR w y cs∧pcT y:=by
 obtain⟨xs,n,_,rfl,_,hxl,hg⟩:=DataW.trod_struct Tryz.underlying33 h
 match cs,hlen with
 | [u0,u1,u2,u3,u4,u5,u6,u7],_ =>
  match xs,hxl with
  | [y0,y1,y2,y3,y4,y5,y6],_ =>
   have h0:DataW.trod enc Tryz.prog w base spare held n 22 (([u0,u1,u2,u3,u4,u5,u6,u7].drop 0).take (Tryz.prog.cellsOf 22))=some y0:=hg 0 _ rfl;rw[qm2] at h0;replace h0:DataW.trod enc Tryz.prog w base spare held n 22 [u0]=some y0:=h0;have h1:DataW.trod enc Tryz.prog w base spare held n 24 (([u0,u1,u2,u3,u4,u5,u6,u7].drop 1).take (Tryz.prog.cellsOf 24))=some y1:=hg 1 _ rfl;rw[cellsID] at h1;replace h1:DataW.trod enc Tryz.prog w base spare held n 24 [u1,u2]=some y1:=h1;have h2:DataW.trod enc Tryz.prog w base spare held n 3 (([u0,u1,u2,u3,u4,u5,u6,u7].drop 3).take (Tryz.prog.cellsOf 3))=some y2:=hg 2 _ rfl;rw[qh7] at h2;replace h2:DataW.trod enc Tryz.prog w base spare held n 3 [u3]=some y2:=h2;have h3:DataW.trod enc Tryz.prog w base spare held n 3 (([u0,u1,u2,u3,u4,u5,u6,u7].drop 4).take (Tryz.prog.cellsOf 3))=some y3:=hg 3 _ rfl;rw[qh7] at h3;replace h3:DataW.trod enc Tryz.prog w base spare held n 3 [u4]=some y3:=h3;have h4:DataW.trod enc Tryz.prog w base spare held n 27 (([u0,u1,u2,u3,u4,u5,u6,u7].drop 5).take (Tryz.prog.cellsOf 27))=some y4:=hg 4 _ rfl;rw[cM_refs] at h4;replace h4:DataW.trod enc Tryz.prog w base spare held n 27 [u5]=some y4:=h4;have h5:DataW.trod enc Tryz.prog w base spare held n 30 (([u0,u1,u2,u3,u4,u5,u6,u7].drop 6).take (Tryz.prog.cellsOf 30))=some y5:=hg 5 _ rfl;rw[cM_lts] at h5;replace h5:DataW.trod enc Tryz.prog w base spare held n 30 [u6]=some y5:=h5;have h6:DataW.trod enc Tryz.prog w base spare held n 31 (([u0,u1,u2,u3,u4,u5,u6,u7].drop 7).take (Tryz.prog.cellsOf 31))=some y6:=hg 6 _ rfl;rw[cM_was] at h6;replace h6:DataW.trod enc Tryz.prog w base spare held n 31 [u7]=some y6:=h6;obtain⟨a0,e0,_,w0⟩:=DataW.trod_int Tryz.underlying22 h0;simp only[List.cons.injEq,and_true] at e0;subst e0;replace w0:=wfU w0;obtain⟨a1,b1,e1,w1,v1⟩:=qq9 (by rfl) h1;simp only[List.cons.injEq,and_true] at e1;obtain⟨e1,f1⟩:=e1;subst e1 f1;obtain⟨a2,e2,_,w2⟩:=DataW.trod_int Tryz.underlying3 h2;simp only[List.cons.injEq,and_true] at e2;subst e2;replace w2:=wfI w2;obtain⟨a3,e3,_,w3⟩:=DataW.trod_int Tryz.underlying3 h3;simp only[List.cons.injEq,and_true] at e3;subst e3;replace w3:=wfI w3;obtain⟨A4,c4,a4,e4,w4,v4⟩:=qi9 (qa6 rfC) rfP Tryz.underlying27 qr5 (by decide +kernel) (by decide) open_refM h4 (hw.part Tryz.underlying33 4 rfl rfl) (qi1 hz (by simp));subst e4;obtain⟨A5,c5,a5,e5,w5,v5⟩:=qi9 (LtR) ltT Tryz.underlying30 cM_lt (by decide +kernel) (by decide) open_ltM h5 (hw.part Tryz.underlying33 5 rfl rfl) (qi1 hz (by simp));subst e5;obtain⟨A6,c6,a6,e6,w6,v6⟩:=qi9 (qa6 waC) waT Tryz.underlying31 cM_wa (by decide +kernel) (by decide) open_waM h6 (hw.part Tryz.underlying33 6 rfl rfl) (qi1 hz (by simp));subst e6;exact⟨⟨a0,a1,b1,a2,a3,a4,a5,a6⟩,⟨A4,c4,A5,c5,A6,c6,rfl,w4,w5,w6⟩,w0,w1,v1,w2,w3,v4,v5,v6⟩
theorem open_anM (fuel:Nat) (cs:List Value) (x:DataW H × List MemPlace) (hlen:cs.length=8) (h:DataW.trod enc Tryz.prog w base spare held fuel 37 cs=some x) (hw:Wgt Tryz.prog 37 x.1) (hz:w.noneFrozen x.2):∃ y,AnRR w y cs∧anT y:=by
 obtain⟨xs,n,_,rfl,_,hxl,hg⟩:=DataW.trod_struct Tryz.underlying37 h
 match cs,hlen with
 | [u0,u1,u2,u3,u4,u5,u6,u7],_ =>
  match xs,hxl with
  | [y0,y1,y2,y3,y4,y5,y6,y7],_ =>
   have h0:DataW.trod enc Tryz.prog w base spare held n 3 (([u0,u1,u2,u3,u4,u5,u6,u7].drop 0).take (Tryz.prog.cellsOf 3))=some y0:=hg 0 _ rfl;rw[qh7] at h0;replace h0:DataW.trod enc Tryz.prog w base spare held n 3 [u0]=some y0:=h0;have h1:DataW.trod enc Tryz.prog w base spare held n 3 (([u0,u1,u2,u3,u4,u5,u6,u7].drop 1).take (Tryz.prog.cellsOf 3))=some y1:=hg 1 _ rfl;rw[qh7] at h1;replace h1:DataW.trod enc Tryz.prog w base spare held n 3 [u1]=some y1:=h1;have h2:DataW.trod enc Tryz.prog w base spare held n 22 (([u0,u1,u2,u3,u4,u5,u6,u7].drop 2).take (Tryz.prog.cellsOf 22))=some y2:=hg 2 _ rfl;rw[qm2] at h2;replace h2:DataW.trod enc Tryz.prog w base spare held n 22 [u2]=some y2:=h2;have h3:DataW.trod enc Tryz.prog w base spare held n 3 (([u0,u1,u2,u3,u4,u5,u6,u7].drop 3).take (Tryz.prog.cellsOf 3))=some y3:=hg 3 _ rfl;rw[qh7] at h3;replace h3:DataW.trod enc Tryz.prog w base spare held n 3 [u3]=some y3:=h3;have h4:DataW.trod enc Tryz.prog w base spare held n 4 (([u0,u1,u2,u3,u4,u5,u6,u7].drop 4).take (Tryz.prog.cellsOf 4))=some y4:=hg 4 _ rfl;rw[cellsB] at h4;replace h4:DataW.trod enc Tryz.prog w base spare held n 4 [u4]=some y4:=h4;have h5:DataW.trod enc Tryz.prog w base spare held n 4 (([u0,u1,u2,u3,u4,u5,u6,u7].drop 5).take (Tryz.prog.cellsOf 4))=some y5:=hg 5 _ rfl;rw[cellsB] at h5;replace h5:DataW.trod enc Tryz.prog w base spare held n 4 [u5]=some y5:=h5;have h6:DataW.trod enc Tryz.prog w base spare held n 3 (([u0,u1,u2,u3,u4,u5,u6,u7].drop 6).take (Tryz.prog.cellsOf 3))=some y6:=hg 6 _ rfl;rw[qh7] at h6;replace h6:DataW.trod enc Tryz.prog w base spare held n 3 [u6]=some y6:=h6;have h7:DataW.trod enc Tryz.prog w base spare held n 35 (([u0,u1,u2,u3,u4,u5,u6,u7].drop 7).take (Tryz.prog.cellsOf 35))=some y7:=hg 7 _ rfl;rw[cM_ins] at h7;replace h7:DataW.trod enc Tryz.prog w base spare held n 35 [u7]=some y7:=h7;obtain⟨a0,e0,_,w0⟩:=DataW.trod_int Tryz.underlying3 h0;simp only[List.cons.injEq,and_true] at e0;subst e0;replace w0:=wfI w0;obtain⟨a1,e1,_,w1⟩:=DataW.trod_int Tryz.underlying3 h1;simp only[List.cons.injEq,and_true] at e1;subst e1;replace w1:=wfI w1;obtain⟨a2,e2,_,w2⟩:=DataW.trod_int Tryz.underlying22 h2;simp only[List.cons.injEq,and_true] at e2;subst e2;replace w2:=wfU w2;obtain⟨a3,e3,_,w3⟩:=DataW.trod_int Tryz.underlying3 h3;simp only[List.cons.injEq,and_true] at e3;subst e3;replace w3:=wfI w3;obtain⟨a4,e4,_⟩:=DataW.trod_bool Tryz.underlying4 h4;simp only[List.cons.injEq,and_true] at e4;subst e4;obtain⟨a5,e5,_⟩:=DataW.trod_bool Tryz.underlying4 h5;simp only[List.cons.injEq,and_true] at e5;subst e5;obtain⟨a6,e6,_,w6⟩:=DataW.trod_int Tryz.underlying3 h6;simp only[List.cons.injEq,and_true] at e6;subst e6;replace w6:=wfI w6;obtain⟨A7,c7,a7,e7,w7,v7⟩:=qi9 (qa6 inC) inP Tryz.underlying35 cM_in (by decide +kernel) (by decide) open_inM h7 (hw.part Tryz.underlying37 7 rfl rfl) (qi1 hz (by simp));subst e7;exact⟨⟨a0,a1,a2,a3,a4,a5,a6,a7⟩,⟨A7,c7,rfl,w7⟩,w0,w1,w3,w6,w2,v7⟩
theorem open_clM (fuel:Nat) (cs:List Value) (x:DataW H × List MemPlace) (hlen:cs.length=5) (h:DataW.trod enc Tryz.prog w base spare held fuel 40 cs=some x) (hw:Wgt Tryz.prog 40 x.1) (hz:w.noneFrozen x.2):∃ y,ClRR w y cs∧clT y:=by
 obtain⟨xs,n,_,rfl,_,hxl,hg⟩:=DataW.trod_struct Tryz.underlying40 h
 match cs,hlen with
 | [u0,u1,u2,u3,u4],_ =>
  match xs,hxl with
  | [y0,y1,y2,y3,y4],_ =>
   have h0:DataW.trod enc Tryz.prog w base spare held n 3 (([u0,u1,u2,u3,u4].drop 0).take (Tryz.prog.cellsOf 3))=some y0:=hg 0 _ rfl;rw[qh7] at h0;replace h0:DataW.trod enc Tryz.prog w base spare held n 3 [u0]=some y0:=h0;have h1:DataW.trod enc Tryz.prog w base spare held n 3 (([u0,u1,u2,u3,u4].drop 1).take (Tryz.prog.cellsOf 3))=some y1:=hg 1 _ rfl;rw[qh7] at h1;replace h1:DataW.trod enc Tryz.prog w base spare held n 3 [u1]=some y1:=h1;have h2:DataW.trod enc Tryz.prog w base spare held n 38 (([u0,u1,u2,u3,u4].drop 2).take (Tryz.prog.cellsOf 38))=some y2:=hg 2 _ rfl;rw[cM_nds] at h2;replace h2:DataW.trod enc Tryz.prog w base spare held n 38 [u2]=some y2:=h2;have h3:DataW.trod enc Tryz.prog w base spare held n 38 (([u0,u1,u2,u3,u4].drop 3).take (Tryz.prog.cellsOf 38))=some y3:=hg 3 _ rfl;rw[cM_nds] at h3;replace h3:DataW.trod enc Tryz.prog w base spare held n 38 [u3]=some y3:=h3;have h4:DataW.trod enc Tryz.prog w base spare held n 38 (([u0,u1,u2,u3,u4].drop 4).take (Tryz.prog.cellsOf 38))=some y4:=hg 4 _ rfl;rw[cM_nds] at h4;replace h4:DataW.trod enc Tryz.prog w base spare held n 38 [u4]=some y4:=h4;obtain⟨a0,e0,_,w0⟩:=DataW.trod_int Tryz.underlying3 h0;simp only[List.cons.injEq,and_true] at e0;subst e0;replace w0:=wfI w0;obtain⟨a1,e1,_,w1⟩:=DataW.trod_int Tryz.underlying3 h1;simp only[List.cons.injEq,and_true] at e1;subst e1;replace w1:=wfI w1;obtain⟨A2,c2,a2,e2,w2,v2⟩:=qi9 (qa6 ndC) ndP Tryz.underlying38 cM_nd (by decide +kernel) (by decide) open_ndM h2 (hw.part Tryz.underlying40 2 rfl rfl) (qi1 hz (by simp));subst e2;obtain⟨A3,c3,a3,e3,w3,v3⟩:=qi9 (qa6 ndC) ndP Tryz.underlying38 cM_nd (by decide +kernel) (by decide) open_ndM h3 (hw.part Tryz.underlying40 3 rfl rfl) (qi1 hz (by simp));subst e3;obtain⟨A4,c4,a4,e4,w4,v4⟩:=qi9 (qa6 ndC) ndP Tryz.underlying38 cM_nd (by decide +kernel) (by decide) open_ndM h4 (hw.part Tryz.underlying40 4 rfl rfl) (qi1 hz (by simp));subst e4;exact⟨⟨a0,a1,a2,a3,a4⟩,⟨A2,c2,A3,c3,A4,c4,rfl,w2,w3,w4⟩,w0,w1,v2,v3,v4⟩
theorem open_msM (fuel:Nat) (cs:List Value) (x:DataW H × List MemPlace) (hlen:cs.length=39) (h:DataW.trod enc Tryz.prog w base spare held fuel 42 cs=some x) (hw:Wgt Tryz.prog 42 x.1) (hz:w.noneFrozen x.2):∃ y,MsR true (Od w) w y cs∧msT y:=by
 obtain⟨xs,n,_,rfl,_,hxl,hg⟩:=DataW.trod_struct Tryz.underlying42 h
 match cs,hlen with
 | (u0::u1::u2::u3::u4::u5::u6::u7::u8::u9::u10::u11::u12::u13::u14::u15::u16::u17::u18::u19::u20::u21::u22::u23::u24::u25::u26::u27::u28::u29::u30::u31::u32::u33::u34::u35::u36::u37::u38::[]),_ =>
  match xs,hxl with
  | [y0,y1,y2,y3,y4,y5,y6,y7,y8,y9],_ =>
   have h0:DataW.trod enc Tryz.prog w base spare held n 3 (((u0::u1::u2::u3::u4::u5::u6::u7::u8::u9::u10::u11::u12::u13::u14::u15::u16::u17::u18::u19::u20::u21::u22::u23::u24::u25::u26::u27::u28::u29::u30::u31::u32::u33::u34::u35::u36::u37::u38::[]).drop 0).take (Tryz.prog.cellsOf 3))=some y0:=hg 0 _ rfl;rw[qh7] at h0;replace h0:DataW.trod enc Tryz.prog w base spare held n 3 [u0]=some y0:=h0;have h1:DataW.trod enc Tryz.prog w base spare held n 22 (((u0::u1::u2::u3::u4::u5::u6::u7::u8::u9::u10::u11::u12::u13::u14::u15::u16::u17::u18::u19::u20::u21::u22::u23::u24::u25::u26::u27::u28::u29::u30::u31::u32::u33::u34::u35::u36::u37::u38::[]).drop 1).take (Tryz.prog.cellsOf 22))=some y1:=hg 1 _ rfl;rw[qm2] at h1;replace h1:DataW.trod enc Tryz.prog w base spare held n 22 [u1]=some y1:=h1;have h2:DataW.trod enc Tryz.prog w base spare held n 3 (((u0::u1::u2::u3::u4::u5::u6::u7::u8::u9::u10::u11::u12::u13::u14::u15::u16::u17::u18::u19::u20::u21::u22::u23::u24::u25::u26::u27::u28::u29::u30::u31::u32::u33::u34::u35::u36::u37::u38::[]).drop 2).take (Tryz.prog.cellsOf 3))=some y2:=hg 2 _ rfl;rw[qh7] at h2;replace h2:DataW.trod enc Tryz.prog w base spare held n 3 [u2]=some y2:=h2;have h3:DataW.trod enc Tryz.prog w base spare held n 9 (((u0::u1::u2::u3::u4::u5::u6::u7::u8::u9::u10::u11::u12::u13::u14::u15::u16::u17::u18::u19::u20::u21::u22::u23::u24::u25::u26::u27::u28::u29::u30::u31::u32::u33::u34::u35::u36::u37::u38::[]).drop 3).take (Tryz.prog.cellsOf 9))=some y3:=hg 3 _ rfl;rw[cM_str] at h3;replace h3:DataW.trod enc Tryz.prog w base spare held n 9 [u3]=some y3:=h3;have h4:DataW.trod enc Tryz.prog w base spare held n 26 (((u0::u1::u2::u3::u4::u5::u6::u7::u8::u9::u10::u11::u12::u13::u14::u15::u16::u17::u18::u19::u20::u21::u22::u23::u24::u25::u26::u27::u28::u29::u30::u31::u32::u33::u34::u35::u36::u37::u38::[]).drop 4).take (Tryz.prog.cellsOf 26))=some y4:=hg 4 _ rfl;rw[qr5] at h4;replace h4:DataW.trod enc Tryz.prog w base spare held n 26 [u4,u5,u6,u7,u8,u9,u10,u11]=some y4:=h4;have h5:DataW.trod enc Tryz.prog w base spare held n 29 (((u0::u1::u2::u3::u4::u5::u6::u7::u8::u9::u10::u11::u12::u13::u14::u15::u16::u17::u18::u19::u20::u21::u22::u23::u24::u25::u26::u27::u28::u29::u30::u31::u32::u33::u34::u35::u36::u37::u38::[]).drop 12).take (Tryz.prog.cellsOf 29))=some y5:=hg 5 _ rfl;rw[cM_lt] at h5;replace h5:DataW.trod enc Tryz.prog w base spare held n 29 [u12,u13,u14,u15]=some y5:=h5;have h6:DataW.trod enc Tryz.prog w base spare held n 33 (((u0::u1::u2::u3::u4::u5::u6::u7::u8::u9::u10::u11::u12::u13::u14::u15::u16::u17::u18::u19::u20::u21::u22::u23::u24::u25::u26::u27::u28::u29::u30::u31::u32::u33::u34::u35::u36::u37::u38::[]).drop 16).take (Tryz.prog.cellsOf 33))=some y6:=hg 6 _ rfl;rw[cM_pc] at h6;replace h6:DataW.trod enc Tryz.prog w base spare held n 33 [u16,u17,u18,u19,u20,u21,u22,u23]=some y6:=h6;have h7:DataW.trod enc Tryz.prog w base spare held n 34 (((u0::u1::u2::u3::u4::u5::u6::u7::u8::u9::u10::u11::u12::u13::u14::u15::u16::u17::u18::u19::u20::u21::u22::u23::u24::u25::u26::u27::u28::u29::u30::u31::u32::u33::u34::u35::u36::u37::u38::[]).drop 24).take (Tryz.prog.cellsOf 34))=some y7:=hg 7 _ rfl;rw[cM_tr] at h7;replace h7:DataW.trod enc Tryz.prog w base spare held n 34 [u24,u25]=some y7:=h7;have h8:DataW.trod enc Tryz.prog w base spare held n 37 (((u0::u1::u2::u3::u4::u5::u6::u7::u8::u9::u10::u11::u12::u13::u14::u15::u16::u17::u18::u19::u20::u21::u22::u23::u24::u25::u26::u27::u28::u29::u30::u31::u32::u33::u34::u35::u36::u37::u38::[]).drop 26).take (Tryz.prog.cellsOf 37))=some y8:=hg 8 _ rfl;rw[cM_an] at h8;replace h8:DataW.trod enc Tryz.prog w base spare held n 37 [u26,u27,u28,u29,u30,u31,u32,u33]=some y8:=h8;have h9:DataW.trod enc Tryz.prog w base spare held n 40 (((u0::u1::u2::u3::u4::u5::u6::u7::u8::u9::u10::u11::u12::u13::u14::u15::u16::u17::u18::u19::u20::u21::u22::u23::u24::u25::u26::u27::u28::u29::u30::u31::u32::u33::u34::u35::u36::u37::u38::[]).drop 34).take (Tryz.prog.cellsOf 40))=some y9:=hg 9 _ rfl;rw[cM_cl] at h9;replace h9:DataW.trod enc Tryz.prog w base spare held n 40 [u34,u35,u36,u37,u38]=some y9:=h9;obtain⟨a0,e0,_,w0⟩:=DataW.trod_int Tryz.underlying3 h0;simp only[List.cons.injEq,and_true] at e0;subst e0;replace w0:=wfI w0;obtain⟨a1,e1,_,w1⟩:=DataW.trod_int Tryz.underlying22 h1;simp only[List.cons.injEq,and_true] at e1;subst e1;replace w1:=wfU w1;obtain⟨a2,e2,_,w2⟩:=DataW.trod_int Tryz.underlying3 h2;simp only[List.cons.injEq,and_true] at e2;subst e2;replace w2:=wfI w2;obtain⟨a3,e3,_,_⟩:=DataW.trod_string Tryz.underlying9 h3;simp only[List.cons.injEq,and_true] at e3;subst e3;obtain⟨a4,e4,w4⟩:=qs5 n _ _ (by rfl) h4 (hw.part Tryz.underlying42 4 rfl rfl);simp only[rfC,List.cons.injEq,and_true] at e4;obtain⟨f4_0,f4_1,f4_2,f4_3,f4_4,f4_5,f4_6,f4_7⟩:=e4;subst f4_0 f4_1 f4_2 f4_3 f4_4 f4_5 f4_6 f4_7;obtain⟨a5,w5,v5⟩:=open_ltM n _ _ (by rfl) h5 (hw.part Tryz.underlying42 5 rfl rfl) (qi1 hz (by simp));obtain⟨a6,w6,v6⟩:=open_pcM n _ _ (by rfl) h6 (hw.part Tryz.underlying42 6 rfl rfl) (qi1 hz (by simp));obtain⟨a7,b7,e7,w7,v7⟩:=open_trR (by rfl) h7;simp only[List.cons.injEq,and_true] at e7;obtain⟨e7,f7⟩:=e7;subst e7 f7;obtain⟨a8,w8,v8⟩:=open_anM n _ _ (by rfl) h8 (hw.part Tryz.underlying42 8 rfl rfl) (qi1 hz (by simp));obtain⟨a9,w9,v9⟩:=open_clM n _ _ (by rfl) h9 (hw.part Tryz.underlying42 9 rfl rfl) (qi1 hz (by simp));obtain⟨Al,cl,el,wl⟩:=w5;obtain⟨A2,c2,A3,c3,A4,c4,ep,wp2,wp3,wp4⟩:=w6;obtain⟨A5,c5,ea,wa⟩:=w8;obtain⟨A6,c6,A7,c7,A8,c8,ec,wc6,wc7,wc8⟩:=w9;simp only[List.cons.injEq,and_true] at el ep ea ec;obtain⟨l0,l1,l2,l3⟩:=el;obtain⟨p0,p1,p2,p3,p4,p5,p6,p7⟩:=ep;obtain⟨q0,q1,q2,q3,q4,q5,q6,q7⟩:=ea;obtain⟨r0,r1,r2,r3,r4⟩:=ec;subst l0 l1 l2 l3 p0 p1 p2 p3 p4 p5 p6 p7 q0 q1 q2 q3 q4 q5 q6 q7 r0 r1 r2 r3 r4;exact⟨⟨a0,a1,a2,a3,a4,a5,a6,a7,b7,a8,a9⟩,⟨Al,cl,A2,c2,A3,c3,A4,c4,A5,c5,A6,c6,A7,c7,A8,c8,rfl,wl,wp2,wp3,wp4,wa,wc6,wc7,wc8⟩,w0,w2,w7,v7,w1,w4,v5,v6,v8,v9⟩
theorem open_msV {r:_root_.Go.Reach} {b0:Nat} {v:Value} {d:DataW H} {p:List MemPlace} (hv:Value.okWide Tryz.prog w r b0 42 v) (h:DataW.Trod enc Tryz.prog w base spare held 42 v d p) (hw:Wgt Tryz.prog 42 d) (hz:w.noneFrozen p) :
  ∃ x r,v=.agg (List.toArray r)∧MsI w x r∧msT x:=by
 obtain⟨cs,rfl,hsz⟩:=okWide_struct Tryz.underlying42 hv;rw[cM_ms] at hsz;obtain⟨fuel,hf⟩:=h;obtain⟨m,hm,hp⟩:=open_msM fuel cs.toList _ (by simpa using hsz) hf hw hz;exact⟨m,cs.toList,by simp,hm,hp⟩
end
end
end Go.Proofs.YtmbnlccafcfbeaaGreatDoor
