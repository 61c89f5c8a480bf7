/- Parts of the proof: RsA, RsB, RsC, RsD. -/
import Derived.BigQuiet
import Derived.Deep.QuietTactic
import Derived.Lib.QuietBelow
import Derived.Test.YtmbnlccafcfbeaaGreatDoorPfA
import Derived.Test.YtmbnlccafcfbeaaGreatDoorPf12
set_option linter.unusedVariables false
set_option linter.unusedSimpArgs false
set_option linter.unusedSectionVars false
set_option maxRecDepth 100000
set_option maxHeartbeats 64000000
namespace Go.Proofs.YtmbnlccafcfbeaaGreatDoor
section
open Go.RowKit
attribute [local go_sem] Oper.semAt_some
theorem qr5 {a b:ByteArray}:(a.toList == b.toList)=decide (a=b):=by
 by_cases h:a=b
 ·rw[decide_eq_true h,h];simp
 ·rw[decide_eq_false h];simp only[beq_eq_false_iff_ne,ne_eq];intro e;rw[Go.ByteArray.toList_eq,Go.ByteArray.toList_eq] at e;exact h (Go.WideShapes.bytes_inj e)
theorem neq_rf (w:World) (x y:Rf):(binOp .neq 26 (.agg #[iv x.kind,iv x.int,iv x.owner,uv x.number,iv x.idm,iv x.ids,iv x.cls,.bool x.weak]) (.agg #[iv y.kind,iv y.int,iv y.owner,uv y.number,iv y.idm,iv y.ids,iv y.cls,.bool y.weak])).run Tryz.prog w=.ok (.bool (decide (x≠y))) w:=by
 cases x;cases y;go_simp
 repeat' split
 all_goals simp_all
theorem neq_nd (w:World) (x y:Nd):(binOp .neq 136 (.agg #[iv x.peer,uv x.number,iv x.stamp]) (.agg #[iv y.peer,uv y.number,iv y.stamp])).run Tryz.prog w=.ok (.bool (decide (x≠y))) w:=by
 cases x;cases y;go_simp
 repeat' split
 all_goals simp_all
theorem neq_in (w:World) (x y:In):(binOp .neq 99 (.agg #[iv x.client,uv x.number,iv x.out]) (.agg #[iv y.client,uv y.number,iv y.out])).run Tryz.prog w=.ok (.bool (decide (x≠y))) w:=by
 cases x;cases y;go_simp
 repeat' split
 all_goals simp_all
theorem qj3 {w:World} {A B:Option Addr} {c d:Nat} {a b:List Rf} (ha:LsI (qa6 rfC) 26 8 w A c a) (hb:LsI (qa6 rfC) 26 8 w B d b):Calls Tryz.prog 24 #[.slice A a.length c,.slice B b.length d] w (qe7 w (decide (a=b))):=by
 have hc:=ha.le;have hd:=hb.le
 by_cases hn:a.length=b.length
 ·have HA:=lh (And.intro ha hb);have HN:=lh hn;rw[← hn] at hd ⊢;have HB0:Hid (bw w w):=lh (Below.refl _ _);have hc1:=hc.1;have hc2:=hc.2;have hd1:=hd.1;clear ha hb hn hc hd
  go_enter Tryz.func24,Tryz.ntmps24
  go_wp2_with fail
  go_loopw [5] (fun ix wr=>∃ j:Nat,ix=iv (j:Int)∧j≤a.length∧a.take j=b.take j∧bw w wr) (fun ix _=>a.length - (intOf ix).toNat)
  case atStart=>exact⟨0,rfl,Nat.zero_le _,rfl,HB0.o⟩
  case round =>
   obtain⟨j,rfl,hj,ht,hbl⟩:=hrel;have HT:=lh (And.intro ht hbl);clear ht hbl
   by_cases hlt:j < a.length
   ·have hlt2:j < b.length:=by rw[← HN.o];exact hlt
    obtain⟨x,hx⟩:∃ x,a[j]?=some x:=⟨_,List.getElem?_eq_getElem hlt⟩
    obtain⟨y,hy⟩:∃ y,b[j]?=some y:=⟨_,List.getElem?_eq_getElem hlt2⟩
    obtain⟨ba,oa,ra,hA,_,hra,hca⟩:=HA.o.1.get hx;obtain⟨bb,ob,rb,hB,_,hrb,hcb⟩:=HA.o.2.get hy;subst hA hB;have HXY:=lh (And.intro hx hy);have e0:cl wr ba (oa+j*8) (iv x.kind):=(qa9 HT.o.2).1 _ _ (qa4 (hca 0 _ (by rw[hra];rfl))) |>.trans (hca 0 _ (by rw[hra];rfl));have f0:cl wr bb (ob+j*8) (iv y.kind):=(qa9 HT.o.2).1 _ _ (qa4 (hcb 0 _ (by rw[hrb];rfl))) |>.trans (hcb 0 _ (by rw[hrb];rfl));have e1:cl wr ba (oa+j*8+1) (iv x.int):=(qa9 HT.o.2).1 _ _ (qa4 (hca 1 _ (by rw[hra];rfl))) |>.trans (hca 1 _ (by rw[hra];rfl));have f1:cl wr bb (ob+j*8+1) (iv y.int):=(qa9 HT.o.2).1 _ _ (qa4 (hcb 1 _ (by rw[hrb];rfl))) |>.trans (hcb 1 _ (by rw[hrb];rfl));have e2:cl wr ba (oa+j*8+2) (iv x.owner):=(qa9 HT.o.2).1 _ _ (qa4 (hca 2 _ (by rw[hra];rfl))) |>.trans (hca 2 _ (by rw[hra];rfl));have f2:cl wr bb (ob+j*8+2) (iv y.owner):=(qa9 HT.o.2).1 _ _ (qa4 (hcb 2 _ (by rw[hrb];rfl))) |>.trans (hcb 2 _ (by rw[hrb];rfl));have e3:cl wr ba (oa+j*8+3) (uv x.number):=(qa9 HT.o.2).1 _ _ (qa4 (hca 3 _ (by rw[hra];rfl))) |>.trans (hca 3 _ (by rw[hra];rfl));have f3:cl wr bb (ob+j*8+3) (uv y.number):=(qa9 HT.o.2).1 _ _ (qa4 (hcb 3 _ (by rw[hrb];rfl))) |>.trans (hcb 3 _ (by rw[hrb];rfl));have e4:cl wr ba (oa+j*8+4) (iv x.idm):=(qa9 HT.o.2).1 _ _ (qa4 (hca 4 _ (by rw[hra];rfl))) |>.trans (hca 4 _ (by rw[hra];rfl));have f4:cl wr bb (ob+j*8+4) (iv y.idm):=(qa9 HT.o.2).1 _ _ (qa4 (hcb 4 _ (by rw[hrb];rfl))) |>.trans (hcb 4 _ (by rw[hrb];rfl));have e5:cl wr ba (oa+j*8+5) (iv x.ids):=(qa9 HT.o.2).1 _ _ (qa4 (hca 5 _ (by rw[hra];rfl))) |>.trans (hca 5 _ (by rw[hra];rfl));have f5:cl wr bb (ob+j*8+5) (iv y.ids):=(qa9 HT.o.2).1 _ _ (qa4 (hcb 5 _ (by rw[hrb];rfl))) |>.trans (hcb 5 _ (by rw[hrb];rfl));have e6:cl wr ba (oa+j*8+6) (iv x.cls):=(qa9 HT.o.2).1 _ _ (qa4 (hca 6 _ (by rw[hra];rfl))) |>.trans (hca 6 _ (by rw[hra];rfl));have f6:cl wr bb (ob+j*8+6) (iv y.cls):=(qa9 HT.o.2).1 _ _ (qa4 (hcb 6 _ (by rw[hrb];rfl))) |>.trans (hcb 6 _ (by rw[hrb];rfl));have e7:cl wr ba (oa+j*8+7) (.bool x.weak):=(qa9 HT.o.2).1 _ _ (qa4 (hca 7 _ (by rw[hra];rfl))) |>.trans (hca 7 _ (by rw[hra];rfl));have f7:cl wr bb (ob+j*8+7) (.bool y.weak):=(qa9 HT.o.2).1 _ _ (qa4 (hcb 7 _ (by rw[hrb];rfl))) |>.trans (hcb 7 _ (by rw[hrb];rfl));have hjc:j < c:=by omega
    have hjd:j < d:=by omega
    have HBD:Hid (∀ k,bw w (wr.drewN k)):=lh fun k=>⟨HT.o.2.os,HT.o.2.tape,HT.o.2.output,HT.o.2.size,HT.o.2.block⟩
    have hne:=fun W=>neq_rf W x y;clear hx hy hca hcb hra hrb hlt2
    by_cases he:x=y
    ·subst he;rw[show decide (x≠x)=false by simp] at hne
     go_upto_region 6 with fail
     go_quiet (fail)
     go_wp2_with fail
     go_roundw
     case rel=>exact⟨j+1,by go_num,hlt,by rw[List.take_add_one,List.take_add_one,HXY.o.1,HXY.o.2,HT.o.1],HBD.o _⟩
     case measure=>simp[intOf];omega
    ·have HE:Hid (decide (a=b)=false):=lh (decide_eq_false fun e=>he (by have h1:=HXY.o.1;rw[e,HXY.o.2] at h1;injection h1 with h1;exact h1.symm));rw[show decide (x≠y)=true by simpa using he] at hne;clear he
     go_upto_region 6 with fail
     go_quiet (fail)
     go_wp2_with fail
     go_ret;rw[HE.o];exact⟨rfl,HBD.o _⟩
   ·obtain rfl:j=a.length:=by omega
    have he:a=b:=by have:=HT.o.1;rw[List.take_length,HN.o,List.take_length] at this;exact this
    have HE:Hid (decide (a=b)=true):=lh (decide_eq_true he);clear hlt hj he
    go_wp2_with fail
    go_ret;rw[HE.o];exact⟨rfl,HT.o.2⟩
 ·have d0:((a.length:Int) != (b.length:Int))=true:=by simpa using (show ¬ (a.length:Int)=b.length by omega)
  have HE:Hid (decide (a=b)=false):=lh (decide_eq_false fun e=>hn (by rw[e]));clear ha hb hn hc hd
  go_enter Tryz.func24,Tryz.ntmps24
  go_wp2_with fail
  go_ret;rw[HE.o];exact⟨rfl,Below.refl _ _⟩
theorem qg0 {w:World} {A B:Option Addr} {c d:Nat} {a b:List Nd} (ha:LsI (qa6 ndC) 136 3 w A c a) (hb:LsI (qa6 ndC) 136 3 w B d b):Calls Tryz.prog 48 #[.slice A a.length c,.slice B b.length d] w (qe7 w (decide (a=b))):=by
 have hc:=ha.le;have hd:=hb.le
 by_cases hn:a.length=b.length
 ·have HA:=lh (And.intro ha hb);have HN:=lh hn;rw[← hn] at hd ⊢;have HB0:Hid (bw w w):=lh (Below.refl _ _);have hc1:=hc.1;have hc2:=hc.2;have hd1:=hd.1;clear ha hb hn hc hd
  go_enter Tryz.func48,Tryz.ntmps48
  go_wp2_with fail
  go_loopw [5] (fun ix wr=>∃ j:Nat,ix=iv (j:Int)∧j≤a.length∧a.take j=b.take j∧bw w wr) (fun ix _=>a.length - (intOf ix).toNat)
  case atStart=>exact⟨0,rfl,Nat.zero_le _,rfl,HB0.o⟩
  case round =>
   obtain⟨j,rfl,hj,ht,hbl⟩:=hrel;have HT:=lh (And.intro ht hbl);clear ht hbl
   by_cases hlt:j < a.length
   ·have hlt2:j < b.length:=by rw[← HN.o];exact hlt
    obtain⟨x,hx⟩:∃ x,a[j]?=some x:=⟨_,List.getElem?_eq_getElem hlt⟩
    obtain⟨y,hy⟩:∃ y,b[j]?=some y:=⟨_,List.getElem?_eq_getElem hlt2⟩
    obtain⟨ba,oa,ra,hA,_,hra,hca⟩:=HA.o.1.get hx;obtain⟨bb,ob,rb,hB,_,hrb,hcb⟩:=HA.o.2.get hy;subst hA hB;have HXY:=lh (And.intro hx hy);have e0:cl wr ba (oa+j*3) (iv x.peer):=(qa9 HT.o.2).1 _ _ (qa4 (hca 0 _ (by rw[hra];rfl))) |>.trans (hca 0 _ (by rw[hra];rfl));have f0:cl wr bb (ob+j*3) (iv y.peer):=(qa9 HT.o.2).1 _ _ (qa4 (hcb 0 _ (by rw[hrb];rfl))) |>.trans (hcb 0 _ (by rw[hrb];rfl));have e1:cl wr ba (oa+j*3+1) (uv x.number):=(qa9 HT.o.2).1 _ _ (qa4 (hca 1 _ (by rw[hra];rfl))) |>.trans (hca 1 _ (by rw[hra];rfl));have f1:cl wr bb (ob+j*3+1) (uv y.number):=(qa9 HT.o.2).1 _ _ (qa4 (hcb 1 _ (by rw[hrb];rfl))) |>.trans (hcb 1 _ (by rw[hrb];rfl));have e2:cl wr ba (oa+j*3+2) (iv x.stamp):=(qa9 HT.o.2).1 _ _ (qa4 (hca 2 _ (by rw[hra];rfl))) |>.trans (hca 2 _ (by rw[hra];rfl));have f2:cl wr bb (ob+j*3+2) (iv y.stamp):=(qa9 HT.o.2).1 _ _ (qa4 (hcb 2 _ (by rw[hrb];rfl))) |>.trans (hcb 2 _ (by rw[hrb];rfl));have hjc:j < c:=by omega
    have hjd:j < d:=by omega
    have HBD:Hid (∀ k,bw w (wr.drewN k)):=lh fun k=>⟨HT.o.2.os,HT.o.2.tape,HT.o.2.output,HT.o.2.size,HT.o.2.block⟩
    have hne:=fun W=>neq_nd W x y;clear hx hy hca hcb hra hrb hlt2
    by_cases he:x=y
    ·subst he;rw[show decide (x≠x)=false by simp] at hne
     go_upto_region 6 with fail
     go_quiet (fail)
     go_wp2_with fail
     go_roundw
     case rel=>exact⟨j+1,by go_num,hlt,by rw[List.take_add_one,List.take_add_one,HXY.o.1,HXY.o.2,HT.o.1],HBD.o _⟩
     case measure=>simp[intOf];omega
    ·have HE:Hid (decide (a=b)=false):=lh (decide_eq_false fun e=>he (by have h1:=HXY.o.1;rw[e,HXY.o.2] at h1;injection h1 with h1;exact h1.symm));rw[show decide (x≠y)=true by simpa using he] at hne;clear he
     go_upto_region 6 with fail
     go_quiet (fail)
     go_wp2_with fail
     go_ret;rw[HE.o];exact⟨rfl,HBD.o _⟩
   ·obtain rfl:j=a.length:=by omega
    have he:a=b:=by have:=HT.o.1;rw[List.take_length,HN.o,List.take_length] at this;exact this
    have HE:Hid (decide (a=b)=true):=lh (decide_eq_true he);clear hlt hj he
    go_wp2_with fail
    go_ret;rw[HE.o];exact⟨rfl,HT.o.2⟩
 ·have d0:((a.length:Int) != (b.length:Int))=true:=by simpa using (show ¬ (a.length:Int)=b.length by omega)
  have HE:Hid (decide (a=b)=false):=lh (decide_eq_false fun e=>hn (by rw[e]));clear ha hb hn hc hd
  go_enter Tryz.func48,Tryz.ntmps48
  go_wp2_with fail
  go_ret;rw[HE.o];exact⟨rfl,Below.refl _ _⟩
end
section
open Go.RowKit
attribute [local go_sem] Oper.semAt_some
theorem eql_id (w:World) (a b c d:Int):(binOp .eql 24 (.agg #[iv a,iv b]) (.agg #[iv c,iv d])).run Tryz.prog w=.ok (.bool (decide (a=c∧b=d))) w:=by
 go_simp
 repeat' split
 all_goals simp_all
theorem neq_id (w:World) (a b c d:Int):(binOp .neq 24 (.agg #[iv a,iv b]) (.agg #[iv c,iv d])).run Tryz.prog w=.ok (.bool (!decide (a=c∧b=d))) w:=by
 go_simp
 repeat' split
 all_goals simp_all
theorem lt_eq (x y:Lt):decide (x=y)=(decide (x.idm=y.idm∧x.ids=y.ids) && decide (x.meth=y.meth) && decide (x.args=y.args)):=by
 cases x;cases y;simp[Bool.decide_and,and_assoc,Bool.and_assoc]
theorem cl_eq (x y:Cl):decide (x=y)=(decide (x.machine=y.machine) && decide (x.epoch=y.epoch) && decide (x.stubs=y.stubs) && decide (x.scions=y.scions) && decide (x.checks=y.checks)):=by
 cases x;cases y;simp[Bool.decide_and,and_assoc,Bool.and_assoc]
theorem qj6 {w:World} {x y:Lt} {A1 B1:Option Addr} {c1 d1:Nat} (hx1:LsI (qa6 rfC) 26 8 w A1 c1 x.args) (hy1:LsI (qa6 rfC) 26 8 w B1 d1 y.args):Calls Tryz.prog 29 #[.agg #[iv x.idm,iv x.ids,.string x.meth,.slice A1 x.args.length c1],.agg #[iv y.idm,iv y.ids,.string y.meth,.slice B1 y.args.length d1]] w (qe7 w (decide (x=y))):=by
 obtain⟨R,hR⟩:∃ R,R=decide (x=y):=⟨_,rfl⟩
 rw[← hR];have HR:=lh hR
 obtain⟨W,hW⟩:∃ W,W=(w.alloc (.cells #[iv x.idm,iv x.ids,.string x.meth,.slice A1 x.args.length c1] 29)).alloc (.cells #[iv y.idm,iv y.ids,.string y.meth,.slice B1 y.args.length d1] 29):=⟨_,rfl⟩
 obtain⟨g,hg⟩:∃ g,g=w.heap.size:=⟨_,rfl⟩
 have hb0:bw w W:=by rw[hW];exact((Below.refl _ _).alloc (Nat.le_refl _) _).alloc (by simp) _
 have hk0:Bk W g 29 #[iv x.idm,iv x.ids,.string x.meth,.slice A1 x.args.length c1]:=by rw[hW,hg];exact(Bk.new _ _ _).alloc _
 have hj0:Bk W (g+1) 29 #[iv y.idm,iv y.ids,.string y.meth,.slice B1 y.args.length d1]:=by rw[hW,hg];have:=Bk.new (w.alloc (.cells #[iv x.idm,iv x.ids,.string x.meth,.slice A1 x.args.length c1] 29)) 29 #[iv y.idm,iv y.ids,.string y.meth,.slice B1 y.args.length d1];simpa using this
 have MX10:Hid (LsI (qa6 rfC) 26 8 W A1 c1 x.args):=lh (hx1.below (qa1 _) (qa0 _) hb0);have MY10:Hid (LsI (qa6 rfC) 26 8 W B1 d1 y.args):=lh (hy1.below (qa1 _) (qa0 _) hb0);have xa0:cl W g 0 (iv x.idm):=hk0.cell 0;have xa1:cl W g 1 (iv x.ids):=hk0.cell 1;have xa2:cl W g 2 (.string x.meth):=hk0.cell 2;have xa3:cl W g 3 (.slice A1 x.args.length c1):=hk0.cell 3;have ya0:cl W (g+1) 0 (iv y.idm):=hj0.cell 0;have ya1:cl W (g+1) 1 (iv y.ids):=hj0.cell 1;have ya2:cl W (g+1) 2 (.string y.meth):=hj0.cell 2;have ya3:cl W (g+1) 3 (.slice B1 y.args.length d1):=hj0.cell 3;have HK0:=lh hk0;have HJ0:=lh hj0;have HB0:=lh hb0;clear hb0 hk0 hj0 hR hx1 hy1
 go_enter Tryz.func29,Tryz.ntmps29
 go_upto_region 1 with fail
 rw[← hW,← hg];clear hW hg
 cases h0:decide (x.idm=y.idm∧x.ids=y.ids) with
 | true =>
  have q0:∀ W,(binOp .eql 24 (.agg #[iv x.idm,iv x.ids]) (.agg #[iv y.idm,iv y.ids])).run Tryz.prog W=.ok (.bool true) W:=fun W=>by rw[eql_id,h0]
  have H0:=lh h0;clear h0
  cases h1:decide (x.meth=y.meth) with
  | true =>
   have q1:(x.meth.toList == y.meth.toList)=true:=by rw[qr5];exact h1
   have H1:=lh h1;clear h1
   cases h2:decide (x.args=y.args) with
   | true =>
    have kc2:=qj3 MX10.o MY10.o;rw[h2] at kc2;have H2:=lh h2;clear h2
    go_wp2_with fail
    refine kc2.mono ?_;rintro e w1 ⟨rfl,hb1⟩;have HB1:=lh (HB0.o.trans (hb1.mono HB0.o.size));clear hb1 kc2 xa0 ya0 xa1 ya1 xa2 ya2 xa3 ya3
    go_wp2_with fail
    go_ret;refine⟨cgb ?_,HB1.o⟩;rw[HR.o,lt_eq]
    simp[H0.o,H1.o,H2.o]
   | false =>
    have kc2:=qj3 MX10.o MY10.o;rw[h2] at kc2;have H2:=lh h2;clear h2
    go_wp2_with fail
    refine kc2.mono ?_;rintro e w1 ⟨rfl,hb1⟩;have HB1:=lh (HB0.o.trans (hb1.mono HB0.o.size));clear hb1 kc2 xa0 ya0 xa1 ya1 xa2 ya2 xa3 ya3
    go_wp2_with fail
    go_ret;refine⟨cgb ?_,HB1.o⟩;rw[HR.o,lt_eq]
    simp[H0.o,H1.o,H2.o]
  | false =>
   have q1:(x.meth.toList == y.meth.toList)=false:=by rw[qr5];exact h1
   have H1:=lh h1;clear h1
   go_wp2_with fail
   go_ret;refine⟨cgb ?_,HB0.o⟩;rw[HR.o,lt_eq]
   simp[H0.o,H1.o]
 | false =>
  have q0:∀ W,(binOp .eql 24 (.agg #[iv x.idm,iv x.ids]) (.agg #[iv y.idm,iv y.ids])).run Tryz.prog W=.ok (bf) W:=fun W=>by rw[eql_id,h0]
  have H0:=lh h0;clear h0
  go_wp2_with fail
  go_ret;refine⟨cgb ?_,HB0.o⟩;rw[HR.o,lt_eq]
  simp[H0.o]
theorem qo7 {w:World} {x y:Cl} {A6 B6:Option Addr} {c6 d6:Nat} {A7 B7:Option Addr} {c7 d7:Nat} {A8 B8:Option Addr} {c8 d8:Nat} (hx6:LsI (qa6 ndC) 136 3 w A6 c6 x.stubs) (hy6:LsI (qa6 ndC) 136 3 w B6 d6 y.stubs) (hx7:LsI (qa6 ndC) 136 3 w A7 c7 x.scions) (hy7:LsI (qa6 ndC) 136 3 w B7 d7 y.scions) (hx8:LsI (qa6 ndC) 136 3 w A8 c8 x.checks) (hy8:LsI (qa6 ndC) 136 3 w B8 d8 y.checks):Calls Tryz.prog 32 #[.agg #[iv x.machine,iv x.epoch,.slice A6 x.stubs.length c6,.slice A7 x.scions.length c7,.slice A8 x.checks.length c8],.agg #[iv y.machine,iv y.epoch,.slice B6 y.stubs.length d6,.slice B7 y.scions.length d7,.slice B8 y.checks.length d8]] w (qe7 w (decide (x=y))):=by
 obtain⟨R,hR⟩:∃ R,R=decide (x=y):=⟨_,rfl⟩
 rw[← hR];have HR:=lh hR
 obtain⟨W,hW⟩:∃ W,W=(w.alloc (.cells #[iv x.machine,iv x.epoch,.slice A6 x.stubs.length c6,.slice A7 x.scions.length c7,.slice A8 x.checks.length c8] 40)).alloc (.cells #[iv y.machine,iv y.epoch,.slice B6 y.stubs.length d6,.slice B7 y.scions.length d7,.slice B8 y.checks.length d8] 40):=⟨_,rfl⟩
 obtain⟨g,hg⟩:∃ g,g=w.heap.size:=⟨_,rfl⟩
 have hb0:bw w W:=by rw[hW];exact((Below.refl _ _).alloc (Nat.le_refl _) _).alloc (by simp) _
 have hk0:Bk W g 40 #[iv x.machine,iv x.epoch,.slice A6 x.stubs.length c6,.slice A7 x.scions.length c7,.slice A8 x.checks.length c8]:=by rw[hW,hg];exact(Bk.new _ _ _).alloc _
 have hj0:Bk W (g+1) 40 #[iv y.machine,iv y.epoch,.slice B6 y.stubs.length d6,.slice B7 y.scions.length d7,.slice B8 y.checks.length d8]:=by rw[hW,hg];have:=Bk.new (w.alloc (.cells #[iv x.machine,iv x.epoch,.slice A6 x.stubs.length c6,.slice A7 x.scions.length c7,.slice A8 x.checks.length c8] 40)) 40 #[iv y.machine,iv y.epoch,.slice B6 y.stubs.length d6,.slice B7 y.scions.length d7,.slice B8 y.checks.length d8];simpa using this
 have MX60:Hid (LsI (qa6 ndC) 136 3 W A6 c6 x.stubs):=lh (hx6.below (qa1 _) (qa0 _) hb0);have MY60:Hid (LsI (qa6 ndC) 136 3 W B6 d6 y.stubs):=lh (hy6.below (qa1 _) (qa0 _) hb0);have MX70:Hid (LsI (qa6 ndC) 136 3 W A7 c7 x.scions):=lh (hx7.below (qa1 _) (qa0 _) hb0);have MY70:Hid (LsI (qa6 ndC) 136 3 W B7 d7 y.scions):=lh (hy7.below (qa1 _) (qa0 _) hb0);have MX80:Hid (LsI (qa6 ndC) 136 3 W A8 c8 x.checks):=lh (hx8.below (qa1 _) (qa0 _) hb0);have MY80:Hid (LsI (qa6 ndC) 136 3 W B8 d8 y.checks):=lh (hy8.below (qa1 _) (qa0 _) hb0);have xa0:cl W g 0 (iv x.machine):=hk0.cell 0;have xa1:cl W g 1 (iv x.epoch):=hk0.cell 1;have xa2:cl W g 2 (.slice A6 x.stubs.length c6):=hk0.cell 2;have xa3:cl W g 3 (.slice A7 x.scions.length c7):=hk0.cell 3;have xa4:cl W g 4 (.slice A8 x.checks.length c8):=hk0.cell 4;have ya0:cl W (g+1) 0 (iv y.machine):=hj0.cell 0;have ya1:cl W (g+1) 1 (iv y.epoch):=hj0.cell 1;have ya2:cl W (g+1) 2 (.slice B6 y.stubs.length d6):=hj0.cell 2;have ya3:cl W (g+1) 3 (.slice B7 y.scions.length d7):=hj0.cell 3;have ya4:cl W (g+1) 4 (.slice B8 y.checks.length d8):=hj0.cell 4;have HK0:=lh hk0;have HJ0:=lh hj0;have HB0:=lh hb0;clear hb0 hk0 hj0 hR hx6 hy6 hx7 hy7 hx8 hy8
 go_enter Tryz.func32,Tryz.ntmps32
 go_upto_region 1 with fail
 rw[← hW,← hg];clear hW hg
 cases h0:decide (x.machine=y.machine) with
 | true =>
  have q0:(x.machine == y.machine)=true:=h0;have H0:=lh h0;clear h0
  cases h1:decide (x.epoch=y.epoch) with
  | true =>
   have q1:(x.epoch == y.epoch)=true:=h1;have H1:=lh h1;clear h1
   cases h2:decide (x.stubs=y.stubs) with
   | true =>
    have kc2:=qg0 MX60.o MY60.o;rw[h2] at kc2;have H2:=lh h2;clear h2
    go_wp2_with fail
    refine kc2.mono ?_;rintro e w1 ⟨rfl,hb1⟩;have HB1:=lh (HB0.o.trans (hb1.mono HB0.o.size));have hk1:=HK0.o.below hb1 HK0.o.lt;have hj1:=HJ0.o.below hb1 HJ0.o.lt;have MX61:Hid (LsI (qa6 ndC) 136 3 w1 A6 c6 x.stubs):=lh (MX60.o.below (qa1 _) (qa0 _) hb1);have MY61:Hid (LsI (qa6 ndC) 136 3 w1 B6 d6 y.stubs):=lh (MY60.o.below (qa1 _) (qa0 _) hb1);have MX71:Hid (LsI (qa6 ndC) 136 3 w1 A7 c7 x.scions):=lh (MX70.o.below (qa1 _) (qa0 _) hb1);have MY71:Hid (LsI (qa6 ndC) 136 3 w1 B7 d7 y.scions):=lh (MY70.o.below (qa1 _) (qa0 _) hb1);have MX81:Hid (LsI (qa6 ndC) 136 3 w1 A8 c8 x.checks):=lh (MX80.o.below (qa1 _) (qa0 _) hb1);have MY81:Hid (LsI (qa6 ndC) 136 3 w1 B8 d8 y.checks):=lh (MY80.o.below (qa1 _) (qa0 _) hb1);have xb0:cl w1 g 0 (iv x.machine):=hk1.cell 0;have xb1:cl w1 g 1 (iv x.epoch):=hk1.cell 1;have xb2:cl w1 g 2 (.slice A6 x.stubs.length c6):=hk1.cell 2;have xb3:cl w1 g 3 (.slice A7 x.scions.length c7):=hk1.cell 3;have xb4:cl w1 g 4 (.slice A8 x.checks.length c8):=hk1.cell 4;have yb0:cl w1 (g+1) 0 (iv y.machine):=hj1.cell 0;have yb1:cl w1 (g+1) 1 (iv y.epoch):=hj1.cell 1;have yb2:cl w1 (g+1) 2 (.slice B6 y.stubs.length d6):=hj1.cell 2;have yb3:cl w1 (g+1) 3 (.slice B7 y.scions.length d7):=hj1.cell 3;have yb4:cl w1 (g+1) 4 (.slice B8 y.checks.length d8):=hj1.cell 4;have HK1:=lh hk1;have HJ1:=lh hj1;clear hb1 hk1 hj1 kc2 xa0 ya0 xa1 ya1 xa2 ya2 xa3 ya3 xa4 ya4
    cases h3:decide (x.scions=y.scions) with
    | true =>
     have kc3:=qg0 MX71.o MY71.o;rw[h3] at kc3;have H3:=lh h3;clear h3
     go_wp2_with fail
     refine kc3.mono ?_;rintro e w2 ⟨rfl,hb2⟩;have HB2:=lh (HB1.o.trans (hb2.mono HB1.o.size));have hk2:=HK1.o.below hb2 HK1.o.lt;have hj2:=HJ1.o.below hb2 HJ1.o.lt;have MX62:Hid (LsI (qa6 ndC) 136 3 w2 A6 c6 x.stubs):=lh (MX61.o.below (qa1 _) (qa0 _) hb2);have MY62:Hid (LsI (qa6 ndC) 136 3 w2 B6 d6 y.stubs):=lh (MY61.o.below (qa1 _) (qa0 _) hb2);have MX72:Hid (LsI (qa6 ndC) 136 3 w2 A7 c7 x.scions):=lh (MX71.o.below (qa1 _) (qa0 _) hb2);have MY72:Hid (LsI (qa6 ndC) 136 3 w2 B7 d7 y.scions):=lh (MY71.o.below (qa1 _) (qa0 _) hb2);have MX82:Hid (LsI (qa6 ndC) 136 3 w2 A8 c8 x.checks):=lh (MX81.o.below (qa1 _) (qa0 _) hb2);have MY82:Hid (LsI (qa6 ndC) 136 3 w2 B8 d8 y.checks):=lh (MY81.o.below (qa1 _) (qa0 _) hb2);have xc0:cl w2 g 0 (iv x.machine):=hk2.cell 0;have xc1:cl w2 g 1 (iv x.epoch):=hk2.cell 1;have xc2:cl w2 g 2 (.slice A6 x.stubs.length c6):=hk2.cell 2;have xc3:cl w2 g 3 (.slice A7 x.scions.length c7):=hk2.cell 3;have xc4:cl w2 g 4 (.slice A8 x.checks.length c8):=hk2.cell 4;have yc0:cl w2 (g+1) 0 (iv y.machine):=hj2.cell 0;have yc1:cl w2 (g+1) 1 (iv y.epoch):=hj2.cell 1;have yc2:cl w2 (g+1) 2 (.slice B6 y.stubs.length d6):=hj2.cell 2;have yc3:cl w2 (g+1) 3 (.slice B7 y.scions.length d7):=hj2.cell 3;have yc4:cl w2 (g+1) 4 (.slice B8 y.checks.length d8):=hj2.cell 4;have HK2:=lh hk2;have HJ2:=lh hj2;clear hb2 hk2 hj2 kc3 xb0 yb0 xb1 yb1 xb2 yb2 xb3 yb3 xb4 yb4
     cases h4:decide (x.checks=y.checks) with
     | true =>
      have kc4:=qg0 MX82.o MY82.o;rw[h4] at kc4;have H4:=lh h4;clear h4
      go_wp2_with fail
      refine kc4.mono ?_;rintro e w3 ⟨rfl,hb3⟩;have HB3:=lh (HB2.o.trans (hb3.mono HB2.o.size));clear hb3 kc4 xc0 yc0 xc1 yc1 xc2 yc2 xc3 yc3 xc4 yc4
      go_wp2_with fail
      go_ret;refine⟨cgb ?_,HB3.o⟩;rw[HR.o,cl_eq]
      simp[H0.o,H1.o,H2.o,H3.o,H4.o]
     | false =>
      have kc4:=qg0 MX82.o MY82.o;rw[h4] at kc4;have H4:=lh h4;clear h4
      go_wp2_with fail
      refine kc4.mono ?_;rintro e w3 ⟨rfl,hb3⟩;have HB3:=lh (HB2.o.trans (hb3.mono HB2.o.size));clear hb3 kc4 xc0 yc0 xc1 yc1 xc2 yc2 xc3 yc3 xc4 yc4
      go_wp2_with fail
      go_ret;refine⟨cgb ?_,HB3.o⟩;rw[HR.o,cl_eq]
      simp[H0.o,H1.o,H2.o,H3.o,H4.o]
    | false =>
     have kc3:=qg0 MX71.o MY71.o;rw[h3] at kc3;have H3:=lh h3;clear h3
     go_wp2_with fail
     refine kc3.mono ?_;rintro e w2 ⟨rfl,hb2⟩;have HB2:=lh (HB1.o.trans (hb2.mono HB1.o.size));clear hb2 kc3 xb0 yb0 xb1 yb1 xb2 yb2 xb3 yb3 xb4 yb4
     go_wp2_with fail
     go_ret;refine⟨cgb ?_,HB2.o⟩;rw[HR.o,cl_eq]
     simp[H0.o,H1.o,H2.o,H3.o]
   | false =>
    have kc2:=qg0 MX60.o MY60.o;rw[h2] at kc2;have H2:=lh h2;clear h2
    go_wp2_with fail
    refine kc2.mono ?_;rintro e w1 ⟨rfl,hb1⟩;have HB1:=lh (HB0.o.trans (hb1.mono HB0.o.size));clear hb1 kc2 xa0 ya0 xa1 ya1 xa2 ya2 xa3 ya3 xa4 ya4
    go_wp2_with fail
    go_ret;refine⟨cgb ?_,HB1.o⟩;rw[HR.o,cl_eq]
    simp[H0.o,H1.o,H2.o]
  | false =>
   have q1:(x.epoch == y.epoch)=false:=h1;have H1:=lh h1;clear h1
   go_wp2_with fail
   go_ret;refine⟨cgb ?_,HB0.o⟩;rw[HR.o,cl_eq]
   simp[H0.o,H1.o]
 | false =>
  have q0:(x.machine == y.machine)=false:=h0;have H0:=lh h0;clear h0
  go_wp2_with fail
  go_ret;refine⟨cgb ?_,HB0.o⟩;rw[HR.o,cl_eq]
  simp[H0.o]
end
section
open Go.RowKit Go.Sort
attribute [local go_sem] Oper.semAt_some
theorem ql9 {w w3:World} (h:∃ p:Regrown,w3=grow (redrawn w p.d) p.os):bw w w3:=by obtain⟨pp,rfl⟩:=h;exact below_regrown _ _ _
theorem len_ne {a b:Nat}:((a:Int) != (b:Int))=!decide (a=b):=by
 by_cases h:a=b
 ·subst h;simp
 ·have:¬ (a:Int)=b:=by omega
  simp[h,this]
theorem qq9 (w:World) (a b:Bool):(binOp .neq 4 (.bool a) (.bool b)).run Tryz.prog w=.ok (.bool (!decide (a=b))) w:=by
 go_simp;cases a <;> cases b <;> rfl
theorem an_eq (x y:An):decide (x=y)=(decide (x.machine=y.machine) && decide (x.owner=y.owner) && decide (x.number=y.number) && decide (x.epoch=y.epoch) && decide (x.known=y.known) && decide (x.rooted=y.rooted) && decide (x.last=y.last) && decide (x.inset.length=y.inset.length) && decide (x.inset=y.inset)):=by
 cases x;cases y;simp only[An.mk.injEq];rw[Bool.eq_iff_iff];simp only[decide_eq_true_eq,Bool.and_eq_true];exact⟨fun⟨a,b,c,d,e,f,g,h⟩=>⟨⟨⟨⟨⟨⟨⟨⟨a,b⟩,c⟩,d⟩,e⟩,f⟩,g⟩,by rw[h]⟩,h⟩,fun⟨⟨⟨⟨⟨⟨⟨⟨a,b⟩,c⟩,d⟩,e⟩,f⟩,g⟩,_⟩,h⟩=>⟨a,b,c,d,e,f,g,h⟩⟩
theorem pc_eq (x y:Pc):decide (x=y)=(decide (x.number=y.number) && decide (x.idm=y.idm∧x.ids=y.ids) && decide (x.kind=y.kind) && decide (x.cls=y.cls) && decide (x.fields=y.fields) && decide (x.mail.length=y.mail.length) && decide (x.watches.length=y.watches.length) && decide (x.mail=y.mail) && decide (x.watches=y.watches)):=by
 cases x;cases y;simp only[Pc.mk.injEq];rw[Bool.eq_iff_iff];simp only[decide_eq_true_eq,Bool.and_eq_true];exact⟨fun⟨a,b,c,d,e,f,g,h⟩=>⟨⟨⟨⟨⟨⟨⟨⟨a,b,c⟩,d⟩,e⟩,f⟩,by rw[g]⟩,by rw[h]⟩,g⟩,h⟩,fun⟨⟨⟨⟨⟨⟨⟨⟨a,b,c⟩,d⟩,e⟩,f⟩,_⟩,_⟩,g⟩,h⟩=>⟨a,b,c,d,e,f,g,h⟩⟩
theorem wa_of {x y:Wa} (h0:x.idm=y.idm) (h1:x.ids=y.ids) (h2:x.meth.toList=y.meth.toList) (h3:x.key=y.key) (h4:x.tgt.kind=y.tgt.kind) (h5:x.tgt.int=y.tgt.int) (h6:x.tgt.owner=y.tgt.owner) (h7:x.tgt.number=y.tgt.number) (h8:x.tgt.idm=y.tgt.idm) (h9:x.tgt.ids=y.tgt.ids) (h10:x.tgt.cls=y.tgt.cls) (h11:x.tgt.weak=y.tgt.weak):x=y:=by
 have hm:x.meth=y.meth:=by rw[Go.ByteArray.toList_eq,Go.ByteArray.toList_eq] at h2;exact Go.WideShapes.bytes_inj h2
 obtain⟨x0,x1,x2,x3,x4,x5,x6,x7,x8,x9,x10,x11⟩:=x;obtain⟨y0,y1,y2,y3,y4,y5,y6,y7,y8,y9,y10,y11⟩:=y;simp only at *;simp only[Wa.mk.injEq,Rf.mk.injEq];exact⟨h0,h1,hm,h3,h4,h5,h6,h7,h8,h9,h10,h11⟩
theorem neq_wa (w:World) (x y:Wa):(binOp .neq 65 (.agg #[iv x.idm,iv x.ids,.string x.meth,iv x.key,iv x.tgt.kind,iv x.tgt.int,iv x.tgt.owner,uv x.tgt.number,iv x.tgt.idm,iv x.tgt.ids,iv x.tgt.cls,.bool x.tgt.weak]) (.agg #[iv y.idm,iv y.ids,.string y.meth,iv y.key,iv y.tgt.kind,iv y.tgt.int,iv y.tgt.owner,uv y.tgt.number,iv y.tgt.idm,iv y.tgt.ids,iv y.tgt.cls,.bool y.tgt.weak])).run Tryz.prog w=.ok (.bool (decide (x≠y))) w:=by
 go_simp
 by_cases h:x=y
 ·subst h;simp
 ·rw[decide_eq_false h]
  by_cases h0:x.idm=y.idm
  rotate_left
  ·rw[if_neg h0];rfl
  rw[if_pos h0]
  by_cases h1:x.ids=y.ids
  rotate_left
  ·rw[if_neg h1];rfl
  rw[if_pos h1]
  by_cases h2:x.meth.toList=y.meth.toList
  rotate_left
  ·rw[if_neg h2];rfl
  rw[if_pos h2]
  by_cases h3:x.key=y.key
  rotate_left
  ·rw[if_neg h3];rfl
  rw[if_pos h3]
  by_cases h4:x.tgt.kind=y.tgt.kind
  rotate_left
  ·rw[if_neg h4];rfl
  rw[if_pos h4]
  by_cases h5:x.tgt.int=y.tgt.int
  rotate_left
  ·rw[if_neg h5];rfl
  rw[if_pos h5]
  by_cases h6:x.tgt.owner=y.tgt.owner
  rotate_left
  ·rw[if_neg h6];rfl
  rw[if_pos h6]
  by_cases h7:x.tgt.number=y.tgt.number
  rotate_left
  ·rw[if_neg h7];rfl
  rw[if_pos h7]
  by_cases h8:x.tgt.idm=y.tgt.idm
  rotate_left
  ·rw[if_neg h8];rfl
  rw[if_pos h8]
  by_cases h9:x.tgt.ids=y.tgt.ids
  rotate_left
  ·rw[if_neg h9];rfl
  rw[if_pos h9]
  by_cases h10:x.tgt.cls=y.tgt.cls
  rotate_left
  ·rw[if_neg h10];rfl
  rw[if_pos h10]
  by_cases h11:x.tgt.weak=y.tgt.weak
  rotate_left
  ·rw[if_neg h11];rfl
  rw[if_pos h11];exact absurd (wa_of h0 h1 h2 h3 h4 h5 h6 h7 h8 h9 h10 h11) h
theorem qn1 {w:World} {x y:An} {A5 B5:Option Addr} {c5 d5:Nat} (hx5:LsI (qa6 inC) 99 3 w A5 c5 x.inset) (hy5:LsI (qa6 inC) 99 3 w B5 d5 y.inset):Calls Tryz.prog 31 #[.agg #[iv x.machine,iv x.owner,uv x.number,iv x.epoch,.bool x.known,.bool x.rooted,iv x.last,.slice A5 x.inset.length c5],.agg #[iv y.machine,iv y.owner,uv y.number,iv y.epoch,.bool y.known,.bool y.rooted,iv y.last,.slice B5 y.inset.length d5]] w (qe7 w (decide (x=y))):=by
 obtain⟨R,hR⟩:∃ R,R=decide (x=y):=⟨_,rfl⟩
 rw[← hR];have HR:=lh hR
 obtain⟨W,hW⟩:∃ W,W=(w.alloc (.cells #[iv x.machine,iv x.owner,uv x.number,iv x.epoch,.bool x.known,.bool x.rooted,iv x.last,.slice A5 x.inset.length c5] 37)).alloc (.cells #[iv y.machine,iv y.owner,uv y.number,iv y.epoch,.bool y.known,.bool y.rooted,iv y.last,.slice B5 y.inset.length d5] 37):=⟨_,rfl⟩
 obtain⟨g,hg⟩:∃ g,g=w.heap.size:=⟨_,rfl⟩
 have hb0:bw w W:=by rw[hW];exact((Below.refl _ _).alloc (Nat.le_refl _) _).alloc (by simp) _
 have hk0:Bk W g 37 #[iv x.machine,iv x.owner,uv x.number,iv x.epoch,.bool x.known,.bool x.rooted,iv x.last,.slice A5 x.inset.length c5]:=by rw[hW,hg];exact(Bk.new _ _ _).alloc _
 have hj0:Bk W (g+1) 37 #[iv y.machine,iv y.owner,uv y.number,iv y.epoch,.bool y.known,.bool y.rooted,iv y.last,.slice B5 y.inset.length d5]:=by rw[hW,hg];have:=Bk.new (w.alloc (.cells #[iv x.machine,iv x.owner,uv x.number,iv x.epoch,.bool x.known,.bool x.rooted,iv x.last,.slice A5 x.inset.length c5] 37)) 37 #[iv y.machine,iv y.owner,uv y.number,iv y.epoch,.bool y.known,.bool y.rooted,iv y.last,.slice B5 y.inset.length d5];simpa using this
 have MX50:Hid (LsI (qa6 inC) 99 3 W A5 c5 x.inset):=lh (hx5.below (qa1 _) (qa0 _) hb0);have MY50:Hid (LsI (qa6 inC) 99 3 W B5 d5 y.inset):=lh (hy5.below (qa1 _) (qa0 _) hb0);have xa0:cl W g 0 (iv x.machine):=hk0.cell 0;have xa1:cl W g 1 (iv x.owner):=hk0.cell 1;have xa2:cl W g 2 (uv x.number):=hk0.cell 2;have xa3:cl W g 3 (iv x.epoch):=hk0.cell 3;have xa4:cl W g 4 (.bool x.known):=hk0.cell 4;have xa5:cl W g 5 (.bool x.rooted):=hk0.cell 5;have xa6:cl W g 6 (iv x.last):=hk0.cell 6;have xa7:cl W g 7 (.slice A5 x.inset.length c5):=hk0.cell 7;have ya0:cl W (g+1) 0 (iv y.machine):=hj0.cell 0;have ya1:cl W (g+1) 1 (iv y.owner):=hj0.cell 1;have ya2:cl W (g+1) 2 (uv y.number):=hj0.cell 2;have ya3:cl W (g+1) 3 (iv y.epoch):=hj0.cell 3;have ya4:cl W (g+1) 4 (.bool y.known):=hj0.cell 4;have ya5:cl W (g+1) 5 (.bool y.rooted):=hj0.cell 5;have ya6:cl W (g+1) 6 (iv y.last):=hj0.cell 6;have ya7:cl W (g+1) 7 (.slice B5 y.inset.length d5):=hj0.cell 7;have HK0:=lh hk0;have HJ0:=lh hj0;have HB0:=lh hb0;clear hb0 hk0 hj0 hR hx5 hy5
 go_enter Tryz.func31,Tryz.ntmps31
 go_upto_region 1 with fail
 rw[← hW,← hg];clear hW hg
 cases h0:decide (x.machine=y.machine) with
 | true =>
  have q0:(x.machine != y.machine)=false:=by show(!(x.machine == y.machine))=_;rw[show(x.machine == y.machine)=_ from h0];rfl
  have H0:=lh h0;clear h0
  cases h1:decide (x.owner=y.owner) with
  | true =>
   have q1:(x.owner != y.owner)=false:=by show(!(x.owner == y.owner))=_;rw[show(x.owner == y.owner)=_ from h1];rfl
   have H1:=lh h1;clear h1
   cases h2:decide (x.number=y.number) with
   | true =>
    have q2:(x.number != y.number)=false:=by show(!(x.number == y.number))=_;rw[show(x.number == y.number)=_ from h2];rfl
    have H2:=lh h2;clear h2
    cases h3:decide (x.epoch=y.epoch) with
    | true =>
     have q3:(x.epoch != y.epoch)=false:=by show(!(x.epoch == y.epoch))=_;rw[show(x.epoch == y.epoch)=_ from h3];rfl
     have H3:=lh h3;clear h3
     cases h4:decide (x.known=y.known) with
     | true =>
      have q4:∀ W,(binOp .neq 4 (.bool x.known) (.bool y.known)).run Tryz.prog W=.ok (bf) W:=fun W=>by rw[qq9,h4];rfl
      have H4:=lh h4;clear h4
      cases h5:decide (x.rooted=y.rooted) with
      | true =>
       have q5:∀ W,(binOp .neq 4 (.bool x.rooted) (.bool y.rooted)).run Tryz.prog W=.ok (bf) W:=fun W=>by rw[qq9,h5];rfl
       have H5:=lh h5;clear h5
       cases h6:decide (x.last=y.last) with
       | true =>
        have q6:(x.last != y.last)=false:=by show(!(x.last == y.last))=_;rw[show(x.last == y.last)=_ from h6];rfl
        have H6:=lh h6;clear h6
        cases h7:decide (x.inset.length=y.inset.length) with
        | true =>
         have q7:((x.inset.length:Int) != (y.inset.length:Int))=false:=by rw[len_ne,h7];rfl
         have H7:=lh h7;clear h7;have HLEN5:Hid (x.inset.length=y.inset.length):=lh (of_decide_eq_true H7.o);have lx5a:=MX50.o.le.1;have lx5b:=MX50.o.le.2;have ly5a:=MY50.o.le.1;have HW5:Hid (bw W W):=lh (Below.refl _ _)
         go_wp2_with fail
         clear xa0 ya0 xa1 ya1 xa2 ya2 xa3 ya3 xa4 ya4 xa5 ya5 xa6 ya6 xa7 ya7
         go_loopw [5] (fun ix wr=>∃ j:Nat,ix=iv (j:Int)∧j≤x.inset.length∧x.inset.take j=y.inset.take j∧bw W wr) (fun ix _=>x.inset.length - (intOf ix).toNat)
         case atStart=>exact⟨0,rfl,Nat.zero_le _,rfl,HW5.o⟩
         case round =>
          obtain⟨j,rfl,hj,ht,hbl⟩:=hrel;have HT:=lh (And.intro ht hbl);have zx:=(HK0.o.below hbl HK0.o.lt).cell 7;have zy:=(HJ0.o.below hbl HJ0.o.lt).cell 7;simp only[List.getElem?_toArray,List.getElem?_cons_zero,List.getElem?_cons_succ] at zx zy;clear ht hbl
          by_cases hlt:j < x.inset.length
          ·have hlt2:j < y.inset.length:=by rw[← HLEN5.o];exact hlt
           obtain⟨p,hp⟩:∃ p,x.inset[j]?=some p:=⟨_,List.getElem?_eq_getElem hlt⟩
           obtain⟨q,hq⟩:∃ q,y.inset[j]?=some q:=⟨_,List.getElem?_eq_getElem hlt2⟩
           obtain⟨ba,oa,ra,hA,_,hra,hca⟩:=MX50.o.get hp;obtain⟨bb,ob,rb,hB,_,hrb,hcb⟩:=MY50.o.get hq;subst hA hB;have HXY:=lh (And.intro hp hq);have e0:cl wr ba (oa+j*3) (iv p.client):=(qa9 HT.o.2).1 _ _ (qa4 (hca 0 _ (by rw[hra];rfl))) |>.trans (hca 0 _ (by rw[hra];rfl));have e1:cl wr ba (oa+j*3+1) (uv p.number):=(qa9 HT.o.2).1 _ _ (qa4 (hca 1 _ (by rw[hra];rfl))) |>.trans (hca 1 _ (by rw[hra];rfl));have e2:cl wr ba (oa+j*3+2) (iv p.out):=(qa9 HT.o.2).1 _ _ (qa4 (hca 2 _ (by rw[hra];rfl))) |>.trans (hca 2 _ (by rw[hra];rfl));have f0:cl wr bb (ob+j*3) (iv q.client):=(qa9 HT.o.2).1 _ _ (qa4 (hcb 0 _ (by rw[hrb];rfl))) |>.trans (hcb 0 _ (by rw[hrb];rfl));have f1:cl wr bb (ob+j*3+1) (uv q.number):=(qa9 HT.o.2).1 _ _ (qa4 (hcb 1 _ (by rw[hrb];rfl))) |>.trans (hcb 1 _ (by rw[hrb];rfl));have f2:cl wr bb (ob+j*3+2) (iv q.out):=(qa9 HT.o.2).1 _ _ (qa4 (hcb 2 _ (by rw[hrb];rfl))) |>.trans (hcb 2 _ (by rw[hrb];rfl));have hjc:j < c5:=by omega
           have hjd:j < d5:=by omega
           have hjm:(j:Int)+1≤9223372036854775807:=by omega
           have HBD:Hid (∀ k,bw W (wr.drewN k)):=lh fun k=>⟨HT.o.2.os,HT.o.2.tape,HT.o.2.output,HT.o.2.size,HT.o.2.block⟩
           have hne:=fun WW=>neq_in WW p q;clear hp hq hca hcb hra hrb
           by_cases he:p=q
           ·subst he;rw[show decide (p≠p)=false by simp] at hne
            go_upto_region 6 with fail
            go_quiet (fail)
            go_wp2_with fail
            go_roundw
            case rel=>exact⟨j+1,by go_num,hlt,by rw[List.take_add_one,List.take_add_one,HXY.o.1,HXY.o.2,HT.o.1],HBD.o _⟩
            case measure=>simp[intOf];omega
           ·have HE:Hid (decide (x.inset=y.inset)=false):=lh (decide_eq_false fun e=>he (by have h1:=HXY.o.1;rw[e,HXY.o.2] at h1;injection h1 with h1;exact h1.symm));rw[show decide (p≠q)=true by simpa using he] at hne;clear he
            go_upto_region 6 with fail
            go_quiet (fail)
            go_wp2_with fail
            go_ret;refine⟨cgb ?_,HB0.o.trans ((HBD.o _).mono HB0.o.size)⟩;rw[HR.o,an_eq]
            simp[HE.o]
          ·obtain rfl:j=x.inset.length:=by omega
           have he:x.inset=y.inset:=by have:=HT.o.1;rw[List.take_length,HLEN5.o,List.take_length] at this;exact this
           have HE5:Hid (decide (x.inset=y.inset)=true):=lh (decide_eq_true he);clear hlt hj he
           go_wp2_with fail
           go_ret;refine⟨cgb ?_,HB0.o.trans (HT.o.2.mono HB0.o.size)⟩;rw[HR.o,an_eq]
           simp[H0.o,H1.o,H2.o,H3.o,H4.o,H5.o,H6.o,H7.o,HE5.o]
        | false =>
         have q7:((x.inset.length:Int) != (y.inset.length:Int))=true:=by rw[len_ne,h7];rfl
         have H7:=lh h7;clear h7
         go_wp2_with fail
         go_ret;refine⟨cgb ?_,HB0.o⟩;rw[HR.o,an_eq]
         simp[H0.o,H1.o,H2.o,H3.o,H4.o,H5.o,H6.o,H7.o]
       | false =>
        have q6:(x.last != y.last)=true:=by show(!(x.last == y.last))=_;rw[show(x.last == y.last)=_ from h6];rfl
        have H6:=lh h6;clear h6
        go_wp2_with fail
        go_ret;refine⟨cgb ?_,HB0.o⟩;rw[HR.o,an_eq]
        simp[H0.o,H1.o,H2.o,H3.o,H4.o,H5.o,H6.o]
      | false =>
       have q5:∀ W,(binOp .neq 4 (.bool x.rooted) (.bool y.rooted)).run Tryz.prog W=.ok (.bool true) W:=fun W=>by rw[qq9,h5];rfl
       have H5:=lh h5;clear h5
       go_wp2_with fail
       go_ret;refine⟨cgb ?_,HB0.o⟩;rw[HR.o,an_eq]
       simp[H0.o,H1.o,H2.o,H3.o,H4.o,H5.o]
     | false =>
      have q4:∀ W,(binOp .neq 4 (.bool x.known) (.bool y.known)).run Tryz.prog W=.ok (.bool true) W:=fun W=>by rw[qq9,h4];rfl
      have H4:=lh h4;clear h4
      go_wp2_with fail
      go_ret;refine⟨cgb ?_,HB0.o⟩;rw[HR.o,an_eq]
      simp[H0.o,H1.o,H2.o,H3.o,H4.o]
    | false =>
     have q3:(x.epoch != y.epoch)=true:=by show(!(x.epoch == y.epoch))=_;rw[show(x.epoch == y.epoch)=_ from h3];rfl
     have H3:=lh h3;clear h3
     go_wp2_with fail
     go_ret;refine⟨cgb ?_,HB0.o⟩;rw[HR.o,an_eq]
     simp[H0.o,H1.o,H2.o,H3.o]
   | false =>
    have q2:(x.number != y.number)=true:=by show(!(x.number == y.number))=_;rw[show(x.number == y.number)=_ from h2];rfl
    have H2:=lh h2;clear h2
    go_wp2_with fail
    go_ret;refine⟨cgb ?_,HB0.o⟩;rw[HR.o,an_eq]
    simp[H0.o,H1.o,H2.o]
  | false =>
   have q1:(x.owner != y.owner)=true:=by show(!(x.owner == y.owner))=_;rw[show(x.owner == y.owner)=_ from h1];rfl
   have H1:=lh h1;clear h1
   go_wp2_with fail
   go_ret;refine⟨cgb ?_,HB0.o⟩;rw[HR.o,an_eq]
   simp[H0.o,H1.o]
 | false =>
  have q0:(x.machine != y.machine)=true:=by show(!(x.machine == y.machine))=_;rw[show(x.machine == y.machine)=_ from h0];rfl
  have H0:=lh h0;clear h0
  go_wp2_with fail
  go_ret;refine⟨cgb ?_,HB0.o⟩;rw[HR.o,an_eq]
  simp[H0.o]
end
section
open Go.RowKit Go.Sort
attribute [local go_sem] Oper.semAt_some
theorem qn0 {w:World} {x y:Pc} {A2 B2:Option Addr} {c2 d2:Nat} {A3 B3:Option Addr} {c3 d3:Nat} {A4 B4:Option Addr} {c4 d4:Nat} (hx2:LsI (qa6 rfC) 26 8 w A2 c2 x.fields) (hy2:LsI (qa6 rfC) 26 8 w B2 d2 y.fields) (hx3:LsI (LtR) 29 4 w A3 c3 x.mail) (hy3:LsI (LtR) 29 4 w B3 d3 y.mail) (hx4:LsI (qa6 waC) 65 12 w A4 c4 x.watches) (hy4:LsI (qa6 waC) 65 12 w B4 d4 y.watches):Calls Tryz.prog 30 #[.agg #[uv x.number,iv x.idm,iv x.ids,iv x.kind,iv x.cls,.slice A2 x.fields.length c2,.slice A3 x.mail.length c3,.slice A4 x.watches.length c4],.agg #[uv y.number,iv y.idm,iv y.ids,iv y.kind,iv y.cls,.slice B2 y.fields.length d2,.slice B3 y.mail.length d3,.slice B4 y.watches.length d4]] w (qe7 w (decide (x=y))):=by
 obtain⟨R,hR⟩:∃ R,R=decide (x=y):=⟨_,rfl⟩
 rw[← hR];have HR:=lh hR
 obtain⟨W,hW⟩:∃ W,W=(w.alloc (.cells #[uv x.number,iv x.idm,iv x.ids,iv x.kind,iv x.cls,.slice A2 x.fields.length c2,.slice A3 x.mail.length c3,.slice A4 x.watches.length c4] 33)).alloc (.cells #[uv y.number,iv y.idm,iv y.ids,iv y.kind,iv y.cls,.slice B2 y.fields.length d2,.slice B3 y.mail.length d3,.slice B4 y.watches.length d4] 33):=⟨_,rfl⟩
 obtain⟨g,hg⟩:∃ g,g=w.heap.size:=⟨_,rfl⟩
 have hb0:bw w W:=by rw[hW];exact((Below.refl _ _).alloc (Nat.le_refl _) _).alloc (by simp) _
 have hk0:Bk W g 33 #[uv x.number,iv x.idm,iv x.ids,iv x.kind,iv x.cls,.slice A2 x.fields.length c2,.slice A3 x.mail.length c3,.slice A4 x.watches.length c4]:=by rw[hW,hg];exact(Bk.new _ _ _).alloc _
 have hj0:Bk W (g+1) 33 #[uv y.number,iv y.idm,iv y.ids,iv y.kind,iv y.cls,.slice B2 y.fields.length d2,.slice B3 y.mail.length d3,.slice B4 y.watches.length d4]:=by rw[hW,hg];have:=Bk.new (w.alloc (.cells #[uv x.number,iv x.idm,iv x.ids,iv x.kind,iv x.cls,.slice A2 x.fields.length c2,.slice A3 x.mail.length c3,.slice A4 x.watches.length c4] 33)) 33 #[uv y.number,iv y.idm,iv y.ids,iv y.kind,iv y.cls,.slice B2 y.fields.length d2,.slice B3 y.mail.length d3,.slice B4 y.watches.length d4];simpa using this
 have MX20:Hid (LsI (qa6 rfC) 26 8 W A2 c2 x.fields):=lh (hx2.below (qa1 _) (qa0 _) hb0);have MY20:Hid (LsI (qa6 rfC) 26 8 W B2 d2 y.fields):=lh (hy2.below (qa1 _) (qa0 _) hb0);have MX30:Hid (LsI (LtR) 29 4 W A3 c3 x.mail):=lh (hx3.below (qg1) (ltR_rk) hb0);have MY30:Hid (LsI (LtR) 29 4 W B3 d3 y.mail):=lh (hy3.below (qg1) (ltR_rk) hb0);have MX40:Hid (LsI (qa6 waC) 65 12 W A4 c4 x.watches):=lh (hx4.below (qa1 _) (qa0 _) hb0);have MY40:Hid (LsI (qa6 waC) 65 12 W B4 d4 y.watches):=lh (hy4.below (qa1 _) (qa0 _) hb0);have xa0:cl W g 0 (uv x.number):=hk0.cell 0;have xa1:cl W g 1 (iv x.idm):=hk0.cell 1;have xa2:cl W g 2 (iv x.ids):=hk0.cell 2;have xa3:cl W g 3 (iv x.kind):=hk0.cell 3;have xa4:cl W g 4 (iv x.cls):=hk0.cell 4;have xa5:cl W g 5 (.slice A2 x.fields.length c2):=hk0.cell 5;have xa6:cl W g 6 (.slice A3 x.mail.length c3):=hk0.cell 6;have xa7:cl W g 7 (.slice A4 x.watches.length c4):=hk0.cell 7;have ya0:cl W (g+1) 0 (uv y.number):=hj0.cell 0;have ya1:cl W (g+1) 1 (iv y.idm):=hj0.cell 1;have ya2:cl W (g+1) 2 (iv y.ids):=hj0.cell 2;have ya3:cl W (g+1) 3 (iv y.kind):=hj0.cell 3;have ya4:cl W (g+1) 4 (iv y.cls):=hj0.cell 4;have ya5:cl W (g+1) 5 (.slice B2 y.fields.length d2):=hj0.cell 5;have ya6:cl W (g+1) 6 (.slice B3 y.mail.length d3):=hj0.cell 6;have ya7:cl W (g+1) 7 (.slice B4 y.watches.length d4):=hj0.cell 7;have HK0:=lh hk0;have HJ0:=lh hj0;have HB0:=lh hb0;clear hb0 hk0 hj0 hR hx2 hy2 hx3 hy3 hx4 hy4
 go_enter Tryz.func30,Tryz.ntmps30
 go_upto_region 1 with fail
 rw[← hW,← hg];clear hW hg
 cases h0:decide (x.number=y.number) with
 | true =>
  have q0:(x.number != y.number)=false:=by show(!(x.number == y.number))=_;rw[show(x.number == y.number)=_ from h0];rfl
  have H0:=lh h0;clear h0
  cases h1:decide (x.idm=y.idm∧x.ids=y.ids) with
  | true =>
   have q1:∀ W,(binOp .neq 24 (.agg #[iv x.idm,iv x.ids]) (.agg #[iv y.idm,iv y.ids])).run Tryz.prog W=.ok (bf) W:=fun W=>by rw[neq_id,h1];rfl
   have H1:=lh h1;clear h1
   cases h2:decide (x.kind=y.kind) with
   | true =>
    have q2:(x.kind != y.kind)=false:=by show(!(x.kind == y.kind))=_;rw[show(x.kind == y.kind)=_ from h2];rfl
    have H2:=lh h2;clear h2
    cases h3:decide (x.cls=y.cls) with
    | true =>
     have q3:(x.cls != y.cls)=false:=by show(!(x.cls == y.cls))=_;rw[show(x.cls == y.cls)=_ from h3];rfl
     have H3:=lh h3;clear h3
     cases h4:decide (x.fields=y.fields) with
     | true =>
      have kc4:=qj3 MX20.o MY20.o;rw[h4] at kc4;have H4:=lh h4;clear h4
      go_wp2_with fail
      refine kc4.mono ?_;rintro e w1 ⟨rfl,hb1⟩;have HB1:=lh (HB0.o.trans (hb1.mono HB0.o.size));have hk1:=HK0.o.below hb1 HK0.o.lt;have hj1:=HJ0.o.below hb1 HJ0.o.lt;have MX21:Hid (LsI (qa6 rfC) 26 8 w1 A2 c2 x.fields):=lh (MX20.o.below (qa1 _) (qa0 _) hb1);have MY21:Hid (LsI (qa6 rfC) 26 8 w1 B2 d2 y.fields):=lh (MY20.o.below (qa1 _) (qa0 _) hb1);have MX31:Hid (LsI (LtR) 29 4 w1 A3 c3 x.mail):=lh (MX30.o.below (qg1) (ltR_rk) hb1);have MY31:Hid (LsI (LtR) 29 4 w1 B3 d3 y.mail):=lh (MY30.o.below (qg1) (ltR_rk) hb1);have MX41:Hid (LsI (qa6 waC) 65 12 w1 A4 c4 x.watches):=lh (MX40.o.below (qa1 _) (qa0 _) hb1);have MY41:Hid (LsI (qa6 waC) 65 12 w1 B4 d4 y.watches):=lh (MY40.o.below (qa1 _) (qa0 _) hb1);have xb0:cl w1 g 0 (uv x.number):=hk1.cell 0;have xb1:cl w1 g 1 (iv x.idm):=hk1.cell 1;have xb2:cl w1 g 2 (iv x.ids):=hk1.cell 2;have xb3:cl w1 g 3 (iv x.kind):=hk1.cell 3;have xb4:cl w1 g 4 (iv x.cls):=hk1.cell 4;have xb5:cl w1 g 5 (.slice A2 x.fields.length c2):=hk1.cell 5;have xb6:cl w1 g 6 (.slice A3 x.mail.length c3):=hk1.cell 6;have xb7:cl w1 g 7 (.slice A4 x.watches.length c4):=hk1.cell 7;have yb0:cl w1 (g+1) 0 (uv y.number):=hj1.cell 0;have yb1:cl w1 (g+1) 1 (iv y.idm):=hj1.cell 1;have yb2:cl w1 (g+1) 2 (iv y.ids):=hj1.cell 2;have yb3:cl w1 (g+1) 3 (iv y.kind):=hj1.cell 3;have yb4:cl w1 (g+1) 4 (iv y.cls):=hj1.cell 4;have yb5:cl w1 (g+1) 5 (.slice B2 y.fields.length d2):=hj1.cell 5;have yb6:cl w1 (g+1) 6 (.slice B3 y.mail.length d3):=hj1.cell 6;have yb7:cl w1 (g+1) 7 (.slice B4 y.watches.length d4):=hj1.cell 7;have HK1:=lh hk1;have HJ1:=lh hj1;clear hb1 hk1 hj1 kc4 xa0 ya0 xa1 ya1 xa2 ya2 xa3 ya3 xa4 ya4 xa5 ya5 xa6 ya6 xa7 ya7
      cases h5:decide (x.mail.length=y.mail.length) with
      | true =>
       have q5:((x.mail.length:Int) != (y.mail.length:Int))=false:=by rw[len_ne,h5];rfl
       have H5:=lh h5;clear h5
       cases h6:decide (x.watches.length=y.watches.length) with
       | true =>
        have q6:((x.watches.length:Int) != (y.watches.length:Int))=false:=by rw[len_ne,h6];rfl
        have H6:=lh h6;clear h6;have HLEN3:Hid (x.mail.length=y.mail.length):=lh (of_decide_eq_true H5.o);have lx3a:=MX31.o.le.1;have lx3b:=MX31.o.le.2;have ly3a:=MY31.o.le.1;have HW3:Hid (bw w1 w1):=lh (Below.refl _ _)
        go_wp2_with fail
        clear xb0 yb0 xb1 yb1 xb2 yb2 xb3 yb3 xb4 yb4 xb5 yb5 xb6 yb6 xb7 yb7
        go_loopw [5] (fun ix wr=>∃ j:Nat,ix=iv (j:Int)∧j≤x.mail.length∧x.mail.take j=y.mail.take j∧bw w1 wr) (fun ix _=>x.mail.length - (intOf ix).toNat)
        case atStart=>exact⟨0,rfl,Nat.zero_le _,rfl,HW3.o⟩
        case round =>
         obtain⟨j,rfl,hj,ht,hbl⟩:=hrel;have HT:=lh (And.intro ht hbl);have zx:=(HK1.o.below hbl HK1.o.lt).cell 6;have zy:=(HJ1.o.below hbl HJ1.o.lt).cell 6;simp only[List.getElem?_toArray,List.getElem?_cons_zero,List.getElem?_cons_succ] at zx zy;clear ht hbl
         by_cases hlt:j < x.mail.length
         ·have hlt2:j < y.mail.length:=by rw[← HLEN3.o];exact hlt
          obtain⟨p,hp⟩:∃ p,x.mail[j]?=some p:=⟨_,List.getElem?_eq_getElem hlt⟩
          obtain⟨q,hq⟩:∃ q,y.mail[j]?=some q:=⟨_,List.getElem?_eq_getElem hlt2⟩
          obtain⟨ba,oa,ra,hA,_,hra,hca⟩:=MX31.o.get hp;obtain⟨bb,ob,rb,hB,_,hrb,hcb⟩:=MY31.o.get hq;subst hA hB;have HXY:=lh (And.intro hp hq);obtain⟨Ap,cp,hra,hlp⟩:=hra;obtain⟨Aq,cq,hrb,hlq⟩:=hrb;have HLP:=lh (LsI.below (show LsI (qa6 rfC) 26 8 _ Ap cp p.args from hlp) (qa1 _) (qa0 _) HT.o.2);have HLQ:=lh (LsI.below (show LsI (qa6 rfC) 26 8 _ Aq cq q.args from hlq) (qa1 _) (qa0 _) HT.o.2);clear hlp hlq;have e0:cl wr ba (oa+j*4) (iv p.idm):=(qa9 HT.o.2).1 _ _ (qa4 (hca 0 _ (by rw[hra];rfl))) |>.trans (hca 0 _ (by rw[hra];rfl));have e1:cl wr ba (oa+j*4+1) (iv p.ids):=(qa9 HT.o.2).1 _ _ (qa4 (hca 1 _ (by rw[hra];rfl))) |>.trans (hca 1 _ (by rw[hra];rfl));have e2:cl wr ba (oa+j*4+2) (.string p.meth):=(qa9 HT.o.2).1 _ _ (qa4 (hca 2 _ (by rw[hra];rfl))) |>.trans (hca 2 _ (by rw[hra];rfl));have e3:cl wr ba (oa+j*4+3) (.slice Ap p.args.length cp):=(qa9 HT.o.2).1 _ _ (qa4 (hca 3 _ (by rw[hra];rfl))) |>.trans (hca 3 _ (by rw[hra];rfl));have f0:cl wr bb (ob+j*4) (iv q.idm):=(qa9 HT.o.2).1 _ _ (qa4 (hcb 0 _ (by rw[hrb];rfl))) |>.trans (hcb 0 _ (by rw[hrb];rfl));have f1:cl wr bb (ob+j*4+1) (iv q.ids):=(qa9 HT.o.2).1 _ _ (qa4 (hcb 1 _ (by rw[hrb];rfl))) |>.trans (hcb 1 _ (by rw[hrb];rfl));have f2:cl wr bb (ob+j*4+2) (.string q.meth):=(qa9 HT.o.2).1 _ _ (qa4 (hcb 2 _ (by rw[hrb];rfl))) |>.trans (hcb 2 _ (by rw[hrb];rfl));have f3:cl wr bb (ob+j*4+3) (.slice Aq q.args.length cq):=(qa9 HT.o.2).1 _ _ (qa4 (hcb 3 _ (by rw[hrb];rfl))) |>.trans (hcb 3 _ (by rw[hrb];rfl));have hjc:j < c3:=by omega
          have hjd:j < d3:=by omega
          have hjm:(j:Int)+1≤9223372036854775807:=by omega
          have ke0:=cell_regrown e0;have kf0:=cell_regrown f0;have ke1:=cell_regrown e1;have kf1:=cell_regrown f1;have ke2:=cell_regrown e2;have kf2:=cell_regrown f2;have ke3:=cell_regrown e3;have kf3:=cell_regrown f3;have kzx:=cell_regrown zx;have kzy:=cell_regrown zy;have cL:=fun dd os=>Calls.regrown_of (w:=wr) (qj6 (x:=p) (y:=q) (LsI.below HLP.o (qa1 _) (qa0 _) (below_regrown wr dd os)) (LsI.below HLQ.o (qa1 _) (qa0 _) (below_regrown wr dd os)));clear hp hq hca hcb hra hrb
          by_cases he:p=q
          ·subst he;rw[decide_eq_true rfl] at cL
           go_upto_region 6 with fail
           clear zx zy e0 f0 e1 f1 e2 f2 e3 f3;refine wp_region_quiet_below (by kernel_rfl) (by kernel_rfl) ?_
           repeat (first | go_big_quiet_step ((go_at_call 29;exact cL _ _)) | quiet_step ((go_at_call 29;exact cL _ _)))
           refine wpQuiet_nil ?_;intro w5 hw';have hb5:=ql9 hw';have HBD:=lh (HT.o.2.trans (hb5.mono HT.o.2.size));clear hw' hb5 cL kzx kzy ke0 kf0 ke1 kf1 ke2 kf2 ke3 kf3
           go_wp2_with fail
           go_roundw
           case rel=>exact⟨j+1,by go_num,hlt,by rw[List.take_add_one,List.take_add_one,HXY.o.1,HXY.o.2,HT.o.1],HBD.o⟩
           case measure=>simp[intOf];omega
          ·have HE:Hid (decide (x.mail=y.mail)=false):=lh (decide_eq_false fun e=>he (by have h1:=HXY.o.1;rw[e,HXY.o.2] at h1;injection h1 with h1;exact h1.symm));rw[decide_eq_false he] at cL;clear he
           go_upto_region 6 with fail
           clear zx zy e0 f0 e1 f1 e2 f2 e3 f3;refine wp_region_quiet_below (by kernel_rfl) (by kernel_rfl) ?_
           repeat (first | go_big_quiet_step ((go_at_call 29;exact cL _ _)) | quiet_step ((go_at_call 29;exact cL _ _)))
           refine wpQuiet_nil ?_;intro w5 hw';have hb5:=ql9 hw';have HBD:=lh (HT.o.2.trans (hb5.mono HT.o.2.size));clear hw' hb5 cL kzx kzy ke0 kf0 ke1 kf1 ke2 kf2 ke3 kf3
           go_wp2_with fail
           go_ret;refine⟨cgb ?_,HB1.o.trans (HBD.o.mono HB1.o.size)⟩;rw[HR.o,pc_eq]
           simp[HE.o]
         ·obtain rfl:j=x.mail.length:=by omega
          have he:x.mail=y.mail:=by have:=HT.o.1;rw[List.take_length,HLEN3.o,List.take_length] at this;exact this
          have HE3:Hid (decide (x.mail=y.mail)=true):=lh (decide_eq_true he);clear hlt hj he
          obtain⟨wm,rfl⟩:∃ wm:World,wm=wr:=⟨_,rfl⟩
          have HB2:=lh (HB1.o.trans (HT.o.2.mono HB1.o.size));have HK2:=lh (HK1.o.below HT.o.2 HK1.o.lt);have HJ2:=lh (HJ1.o.below HT.o.2 HJ1.o.lt);have MX42:Hid (LsI (qa6 waC) 65 12 wm A4 c4 x.watches):=lh (MX41.o.below (qa1 _) (qa0 _) HT.o.2);have MY42:Hid (LsI (qa6 waC) 65 12 wm B4 d4 y.watches):=lh (MY41.o.below (qa1 _) (qa0 _) HT.o.2);clear lx3a lx3b ly3a HLEN3 HW3;have vx:=HK2.o.cell 7;have vy:=HJ2.o.cell 7;simp only[List.getElem?_toArray,List.getElem?_cons_zero,List.getElem?_cons_succ] at vx vy;have HLEN4:Hid (x.watches.length=y.watches.length):=lh (of_decide_eq_true H6.o);have lx4a:=MX42.o.le.1;have lx4b:=MX42.o.le.2;have ly4a:=MY42.o.le.1;have HW4:Hid (bw wm wm):=lh (Below.refl _ _)
          go_wp2_with fail
          clear vx vy
          go_loopw [6] (fun ix wr=>∃ j:Nat,ix=iv (j:Int)∧j≤x.watches.length∧x.watches.take j=y.watches.take j∧bw wm wr) (fun ix _=>x.watches.length - (intOf ix).toNat)
          case atStart=>exact⟨0,rfl,Nat.zero_le _,rfl,HW4.o⟩
          case round =>
           obtain⟨j,rfl,hj,ht,hbl⟩:=hrel;have HT:=lh (And.intro ht hbl);have zx:=(HK2.o.below hbl HK2.o.lt).cell 7;have zy:=(HJ2.o.below hbl HJ2.o.lt).cell 7;simp only[List.getElem?_toArray,List.getElem?_cons_zero,List.getElem?_cons_succ] at zx zy;clear ht hbl
           by_cases hlt:j < x.watches.length
           ·have hlt2:j < y.watches.length:=by rw[← HLEN4.o];exact hlt
            obtain⟨p,hp⟩:∃ p,x.watches[j]?=some p:=⟨_,List.getElem?_eq_getElem hlt⟩
            obtain⟨q,hq⟩:∃ q,y.watches[j]?=some q:=⟨_,List.getElem?_eq_getElem hlt2⟩
            obtain⟨ba,oa,ra,hA,_,hra,hca⟩:=MX42.o.get hp;obtain⟨bb,ob,rb,hB,_,hrb,hcb⟩:=MY42.o.get hq;subst hA hB;have HXY:=lh (And.intro hp hq);have e0:cl wr ba (oa+j*12) (iv p.idm):=(qa9 HT.o.2).1 _ _ (qa4 (hca 0 _ (by rw[hra];rfl))) |>.trans (hca 0 _ (by rw[hra];rfl));have e1:cl wr ba (oa+j*12+1) (iv p.ids):=(qa9 HT.o.2).1 _ _ (qa4 (hca 1 _ (by rw[hra];rfl))) |>.trans (hca 1 _ (by rw[hra];rfl));have e2:cl wr ba (oa+j*12+2) (.string p.meth):=(qa9 HT.o.2).1 _ _ (qa4 (hca 2 _ (by rw[hra];rfl))) |>.trans (hca 2 _ (by rw[hra];rfl));have e3:cl wr ba (oa+j*12+3) (iv p.key):=(qa9 HT.o.2).1 _ _ (qa4 (hca 3 _ (by rw[hra];rfl))) |>.trans (hca 3 _ (by rw[hra];rfl));have e4:cl wr ba (oa+j*12+4) (iv p.tgt.kind):=(qa9 HT.o.2).1 _ _ (qa4 (hca 4 _ (by rw[hra];rfl))) |>.trans (hca 4 _ (by rw[hra];rfl));have e5:cl wr ba (oa+j*12+5) (iv p.tgt.int):=(qa9 HT.o.2).1 _ _ (qa4 (hca 5 _ (by rw[hra];rfl))) |>.trans (hca 5 _ (by rw[hra];rfl));have e6:cl wr ba (oa+j*12+6) (iv p.tgt.owner):=(qa9 HT.o.2).1 _ _ (qa4 (hca 6 _ (by rw[hra];rfl))) |>.trans (hca 6 _ (by rw[hra];rfl));have e7:cl wr ba (oa+j*12+7) (uv p.tgt.number):=(qa9 HT.o.2).1 _ _ (qa4 (hca 7 _ (by rw[hra];rfl))) |>.trans (hca 7 _ (by rw[hra];rfl));have e8:cl wr ba (oa+j*12+8) (iv p.tgt.idm):=(qa9 HT.o.2).1 _ _ (qa4 (hca 8 _ (by rw[hra];rfl))) |>.trans (hca 8 _ (by rw[hra];rfl));have e9:cl wr ba (oa+j*12+9) (iv p.tgt.ids):=(qa9 HT.o.2).1 _ _ (qa4 (hca 9 _ (by rw[hra];rfl))) |>.trans (hca 9 _ (by rw[hra];rfl));have e10:cl wr ba (oa+j*12+10) (iv p.tgt.cls):=(qa9 HT.o.2).1 _ _ (qa4 (hca 10 _ (by rw[hra];rfl))) |>.trans (hca 10 _ (by rw[hra];rfl));have e11:cl wr ba (oa+j*12+11) (.bool p.tgt.weak):=(qa9 HT.o.2).1 _ _ (qa4 (hca 11 _ (by rw[hra];rfl))) |>.trans (hca 11 _ (by rw[hra];rfl));have f0:cl wr bb (ob+j*12) (iv q.idm):=(qa9 HT.o.2).1 _ _ (qa4 (hcb 0 _ (by rw[hrb];rfl))) |>.trans (hcb 0 _ (by rw[hrb];rfl));have f1:cl wr bb (ob+j*12+1) (iv q.ids):=(qa9 HT.o.2).1 _ _ (qa4 (hcb 1 _ (by rw[hrb];rfl))) |>.trans (hcb 1 _ (by rw[hrb];rfl));have f2:cl wr bb (ob+j*12+2) (.string q.meth):=(qa9 HT.o.2).1 _ _ (qa4 (hcb 2 _ (by rw[hrb];rfl))) |>.trans (hcb 2 _ (by rw[hrb];rfl));have f3:cl wr bb (ob+j*12+3) (iv q.key):=(qa9 HT.o.2).1 _ _ (qa4 (hcb 3 _ (by rw[hrb];rfl))) |>.trans (hcb 3 _ (by rw[hrb];rfl));have f4:cl wr bb (ob+j*12+4) (iv q.tgt.kind):=(qa9 HT.o.2).1 _ _ (qa4 (hcb 4 _ (by rw[hrb];rfl))) |>.trans (hcb 4 _ (by rw[hrb];rfl));have f5:cl wr bb (ob+j*12+5) (iv q.tgt.int):=(qa9 HT.o.2).1 _ _ (qa4 (hcb 5 _ (by rw[hrb];rfl))) |>.trans (hcb 5 _ (by rw[hrb];rfl));have f6:cl wr bb (ob+j*12+6) (iv q.tgt.owner):=(qa9 HT.o.2).1 _ _ (qa4 (hcb 6 _ (by rw[hrb];rfl))) |>.trans (hcb 6 _ (by rw[hrb];rfl));have f7:cl wr bb (ob+j*12+7) (uv q.tgt.number):=(qa9 HT.o.2).1 _ _ (qa4 (hcb 7 _ (by rw[hrb];rfl))) |>.trans (hcb 7 _ (by rw[hrb];rfl));have f8:cl wr bb (ob+j*12+8) (iv q.tgt.idm):=(qa9 HT.o.2).1 _ _ (qa4 (hcb 8 _ (by rw[hrb];rfl))) |>.trans (hcb 8 _ (by rw[hrb];rfl));have f9:cl wr bb (ob+j*12+9) (iv q.tgt.ids):=(qa9 HT.o.2).1 _ _ (qa4 (hcb 9 _ (by rw[hrb];rfl))) |>.trans (hcb 9 _ (by rw[hrb];rfl));have f10:cl wr bb (ob+j*12+10) (iv q.tgt.cls):=(qa9 HT.o.2).1 _ _ (qa4 (hcb 10 _ (by rw[hrb];rfl))) |>.trans (hcb 10 _ (by rw[hrb];rfl));have f11:cl wr bb (ob+j*12+11) (.bool q.tgt.weak):=(qa9 HT.o.2).1 _ _ (qa4 (hcb 11 _ (by rw[hrb];rfl))) |>.trans (hcb 11 _ (by rw[hrb];rfl));have hjc:j < c4:=by omega
            have hjd:j < d4:=by omega
            have hjm:(j:Int)+1≤9223372036854775807:=by omega
            have HBD:Hid (∀ k,bw wm (wr.drewN k)):=lh fun k=>⟨HT.o.2.os,HT.o.2.tape,HT.o.2.output,HT.o.2.size,HT.o.2.block⟩
            have hne:=fun WW=>neq_wa WW p q;clear hp hq hca hcb hra hrb
            by_cases he:p=q
            ·subst he;rw[show decide (p≠p)=false by simp] at hne
             go_upto_region 11 with fail
             go_quiet (fail)
             go_wp2_with fail
             go_roundw
             case rel=>exact⟨j+1,by go_num,hlt,by rw[List.take_add_one,List.take_add_one,HXY.o.1,HXY.o.2,HT.o.1],HBD.o _⟩
             case measure=>simp[intOf];omega
            ·have HE:Hid (decide (x.watches=y.watches)=false):=lh (decide_eq_false fun e=>he (by have h1:=HXY.o.1;rw[e,HXY.o.2] at h1;injection h1 with h1;exact h1.symm));rw[show decide (p≠q)=true by simpa using he] at hne;clear he
             go_upto_region 11 with fail
             go_quiet (fail)
             go_wp2_with fail
             go_ret;refine⟨cgb ?_,HB2.o.trans ((HBD.o _).mono HB2.o.size)⟩;rw[HR.o,pc_eq]
             simp[HE.o]
           ·obtain rfl:j=x.watches.length:=by omega
            have he:x.watches=y.watches:=by have:=HT.o.1;rw[List.take_length,HLEN4.o,List.take_length] at this;exact this
            have HE4:Hid (decide (x.watches=y.watches)=true):=lh (decide_eq_true he);clear hlt hj he
            go_wp2_with fail
            go_ret;refine⟨cgb ?_,HB2.o.trans (HT.o.2.mono HB2.o.size)⟩;rw[HR.o,pc_eq]
            simp[H0.o,H1.o,H2.o,H3.o,H4.o,H5.o,H6.o,HE3.o,HE4.o]
       | false =>
        have q6:((x.watches.length:Int) != (y.watches.length:Int))=true:=by rw[len_ne,h6];rfl
        have H6:=lh h6;clear h6
        go_wp2_with fail
        go_ret;refine⟨cgb ?_,HB1.o⟩;rw[HR.o,pc_eq]
        simp[H0.o,H1.o,H2.o,H3.o,H4.o,H5.o,H6.o]
      | false =>
       have q5:((x.mail.length:Int) != (y.mail.length:Int))=true:=by rw[len_ne,h5];rfl
       have H5:=lh h5;clear h5
       go_wp2_with fail
       go_ret;refine⟨cgb ?_,HB1.o⟩;rw[HR.o,pc_eq]
       simp[H0.o,H1.o,H2.o,H3.o,H4.o,H5.o]
     | false =>
      have kc4:=qj3 MX20.o MY20.o;rw[h4] at kc4;have H4:=lh h4;clear h4
      go_wp2_with fail
      refine kc4.mono ?_;rintro e w1 ⟨rfl,hb1⟩;have HB1:=lh (HB0.o.trans (hb1.mono HB0.o.size));clear hb1 kc4 xa0 ya0 xa1 ya1 xa2 ya2 xa3 ya3 xa4 ya4 xa5 ya5 xa6 ya6 xa7 ya7
      go_wp2_with fail
      go_ret;refine⟨cgb ?_,HB1.o⟩;rw[HR.o,pc_eq]
      simp[H0.o,H1.o,H2.o,H3.o,H4.o]
    | false =>
     have q3:(x.cls != y.cls)=true:=by show(!(x.cls == y.cls))=_;rw[show(x.cls == y.cls)=_ from h3];rfl
     have H3:=lh h3;clear h3
     go_wp2_with fail
     go_ret;refine⟨cgb ?_,HB0.o⟩;rw[HR.o,pc_eq]
     simp[H0.o,H1.o,H2.o,H3.o]
   | false =>
    have q2:(x.kind != y.kind)=true:=by show(!(x.kind == y.kind))=_;rw[show(x.kind == y.kind)=_ from h2];rfl
    have H2:=lh h2;clear h2
    go_wp2_with fail
    go_ret;refine⟨cgb ?_,HB0.o⟩;rw[HR.o,pc_eq]
    simp[H0.o,H1.o,H2.o]
  | false =>
   have q1:∀ W,(binOp .neq 24 (.agg #[iv x.idm,iv x.ids]) (.agg #[iv y.idm,iv y.ids])).run Tryz.prog W=.ok (.bool true) W:=fun W=>by rw[neq_id,h1];rfl
   have H1:=lh h1;clear h1
   go_wp2_with fail
   go_ret;refine⟨cgb ?_,HB0.o⟩;rw[HR.o,pc_eq]
   simp[H0.o,H1.o]
 | false =>
  have q0:(x.number != y.number)=true:=by show(!(x.number == y.number))=_;rw[show(x.number == y.number)=_ from h0];rfl
  have H0:=lh h0;clear h0
  go_wp2_with fail
  go_ret;refine⟨cgb ?_,HB0.o⟩;rw[HR.o,pc_eq]
  simp[H0.o]
end
end Go.Proofs.YtmbnlccafcfbeaaGreatDoor
