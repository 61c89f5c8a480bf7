/- Parts of the proof: RsA, RsB, RsC. -/
import Derived.BigQuiet
import Derived.Deep.QuietTactic
import Derived.Lib.QuietBelow
import Derived.Test.YtmbnlccafcfbeaaGreatDoorPeA
import Derived.Test.YtmbnlccafcfbeaaGreatDoorPe20
set_option linter.unusedVariables false
set_option linter.unusedSimpArgs false
set_option linter.unusedSectionVars false
set_option maxRecDepth 100000
namespace Go.Proofs.YtmbnlccafcfbeaaGreatDoor
section
open Go.RowKit
attribute [local go_sem] Oper.semAt_some
theorem bytes_eq {a b:ByteArray}:(a.toList == b.toList)=decide (a=b):=by
 by_cases h:a=b
 ·rw[decide_eq_true h,h];simp
 ·rw[decide_eq_false h]
  simp only[beq_eq_false_iff_ne,ne_eq]
  intro e
  rw[Go.ByteArray.toList_eq,Go.ByteArray.toList_eq] at e
  exact h (Go.WideShapes.bytes_inj e)
set_option maxHeartbeats 2000000 in
theorem neq_rf (w:World) (x y:Rf):(binOp .neq 26 (.agg #[.int .i64 x.kind,.int .i64 x.int,.int .i64 x.owner,.int .u64 x.number,.int .i64 x.idm,.int .i64 x.ids,.int .i64 x.cls,.bool x.weak]) (.agg #[.int .i64 y.kind,.int .i64 y.int,.int .i64 y.owner,.int .u64 y.number,.int .i64 y.idm,.int .i64 y.ids,.int .i64 y.cls,.bool y.weak])).run Tryz.prog w=.ok (.bool (decide (x≠y))) w:=by
 cases x;cases y
 go_simp
 repeat' split
 all_goals simp_all
set_option maxHeartbeats 2000000 in
theorem neq_nd (w:World) (x y:Nd):(binOp .neq 136 (.agg #[.int .i64 x.peer,.int .u64 x.number,.int .i64 x.stamp]) (.agg #[.int .i64 y.peer,.int .u64 y.number,.int .i64 y.stamp])).run Tryz.prog w=.ok (.bool (decide (x≠y))) w:=by
 cases x;cases y
 go_simp
 repeat' split
 all_goals simp_all
set_option maxHeartbeats 2000000 in
theorem neq_in (w:World) (x y:In):(binOp .neq 99 (.agg #[.int .i64 x.client,.int .u64 x.number,.int .i64 x.out]) (.agg #[.int .i64 y.client,.int .u64 y.number,.int .i64 y.out])).run Tryz.prog w=.ok (.bool (decide (x≠y))) w:=by
 cases x;cases y
 go_simp
 repeat' split
 all_goals simp_all
set_option maxHeartbeats 4000000 in
theorem SameRefs_any {w:World} {A B:Option Addr} {c d:Nat} {a b:List Rf} (ha:LsI (flat rfC) 26 8 w A c a) (hb:LsI (flat rfC) 26 8 w B d b):Calls Tryz.prog 24 #[.slice A a.length c,.slice B b.length d] w (YesP w (decide (a=b))):=by
 have hc:=ha.le
 have hd:=hb.le
 by_cases hn:a.length=b.length
 ·have HA:=lh (And.intro ha hb)
  have HN:=lh hn
  rw[← hn] at hd ⊢
  have HB0:Hid (Below w.heap.size w w):=lh (Below.refl _ _)
  have hc1:=hc.1
  have hc2:=hc.2
  have hd1:=hd.1
  clear ha hb hn hc hd
  go_enter Tryz.func24,Tryz.ntmps24
  go_wp2_with fail
  go_loopw [5] (fun ix wr=>∃ j:Nat,ix=.int .i64 (j:Int)∧j≤a.length∧a.take j=b.take j∧Below w.heap.size w wr) (fun ix _=>a.length - (intOf ix).toNat)
  case atStart=>exact⟨0,rfl,Nat.zero_le _,rfl,HB0.out⟩
  case round =>
   obtain⟨j,rfl,hj,ht,hbl⟩:=hrel
   have HT:=lh (And.intro ht hbl)
   clear ht hbl
   by_cases hlt:j < a.length
   ·have hlt2:j < b.length:=by rw[← HN.out];exact hlt
    obtain⟨x,hx⟩:∃ x,a[j]?=some x:=⟨_,List.getElem?_eq_getElem hlt⟩
    obtain⟨y,hy⟩:∃ y,b[j]?=some y:=⟨_,List.getElem?_eq_getElem hlt2⟩
    obtain⟨ba,oa,ra,hA,_,hra,hca⟩:=HA.out.1.get hx
    obtain⟨bb,ob,rb,hB,_,hrb,hcb⟩:=HA.out.2.get hy
    subst hA hB
    have HXY:=lh (And.intro hx hy)
    have e0:wr.cell? ⟨ba,oa+j*8,none⟩=some (.int .i64 x.kind):=(bcell HT.out.2).1 _ _ (cell_lt (hca 0 _ (by rw[hra];rfl))) |>.trans (hca 0 _ (by rw[hra];rfl))
    have f0:wr.cell? ⟨bb,ob+j*8,none⟩=some (.int .i64 y.kind):=(bcell HT.out.2).1 _ _ (cell_lt (hcb 0 _ (by rw[hrb];rfl))) |>.trans (hcb 0 _ (by rw[hrb];rfl))
    have e1:wr.cell? ⟨ba,oa+j*8+1,none⟩=some (.int .i64 x.int):=(bcell HT.out.2).1 _ _ (cell_lt (hca 1 _ (by rw[hra];rfl))) |>.trans (hca 1 _ (by rw[hra];rfl))
    have f1:wr.cell? ⟨bb,ob+j*8+1,none⟩=some (.int .i64 y.int):=(bcell HT.out.2).1 _ _ (cell_lt (hcb 1 _ (by rw[hrb];rfl))) |>.trans (hcb 1 _ (by rw[hrb];rfl))
    have e2:wr.cell? ⟨ba,oa+j*8+2,none⟩=some (.int .i64 x.owner):=(bcell HT.out.2).1 _ _ (cell_lt (hca 2 _ (by rw[hra];rfl))) |>.trans (hca 2 _ (by rw[hra];rfl))
    have f2:wr.cell? ⟨bb,ob+j*8+2,none⟩=some (.int .i64 y.owner):=(bcell HT.out.2).1 _ _ (cell_lt (hcb 2 _ (by rw[hrb];rfl))) |>.trans (hcb 2 _ (by rw[hrb];rfl))
    have e3:wr.cell? ⟨ba,oa+j*8+3,none⟩=some (.int .u64 x.number):=(bcell HT.out.2).1 _ _ (cell_lt (hca 3 _ (by rw[hra];rfl))) |>.trans (hca 3 _ (by rw[hra];rfl))
    have f3:wr.cell? ⟨bb,ob+j*8+3,none⟩=some (.int .u64 y.number):=(bcell HT.out.2).1 _ _ (cell_lt (hcb 3 _ (by rw[hrb];rfl))) |>.trans (hcb 3 _ (by rw[hrb];rfl))
    have e4:wr.cell? ⟨ba,oa+j*8+4,none⟩=some (.int .i64 x.idm):=(bcell HT.out.2).1 _ _ (cell_lt (hca 4 _ (by rw[hra];rfl))) |>.trans (hca 4 _ (by rw[hra];rfl))
    have f4:wr.cell? ⟨bb,ob+j*8+4,none⟩=some (.int .i64 y.idm):=(bcell HT.out.2).1 _ _ (cell_lt (hcb 4 _ (by rw[hrb];rfl))) |>.trans (hcb 4 _ (by rw[hrb];rfl))
    have e5:wr.cell? ⟨ba,oa+j*8+5,none⟩=some (.int .i64 x.ids):=(bcell HT.out.2).1 _ _ (cell_lt (hca 5 _ (by rw[hra];rfl))) |>.trans (hca 5 _ (by rw[hra];rfl))
    have f5:wr.cell? ⟨bb,ob+j*8+5,none⟩=some (.int .i64 y.ids):=(bcell HT.out.2).1 _ _ (cell_lt (hcb 5 _ (by rw[hrb];rfl))) |>.trans (hcb 5 _ (by rw[hrb];rfl))
    have e6:wr.cell? ⟨ba,oa+j*8+6,none⟩=some (.int .i64 x.cls):=(bcell HT.out.2).1 _ _ (cell_lt (hca 6 _ (by rw[hra];rfl))) |>.trans (hca 6 _ (by rw[hra];rfl))
    have f6:wr.cell? ⟨bb,ob+j*8+6,none⟩=some (.int .i64 y.cls):=(bcell HT.out.2).1 _ _ (cell_lt (hcb 6 _ (by rw[hrb];rfl))) |>.trans (hcb 6 _ (by rw[hrb];rfl))
    have e7:wr.cell? ⟨ba,oa+j*8+7,none⟩=some (.bool x.weak):=(bcell HT.out.2).1 _ _ (cell_lt (hca 7 _ (by rw[hra];rfl))) |>.trans (hca 7 _ (by rw[hra];rfl))
    have f7:wr.cell? ⟨bb,ob+j*8+7,none⟩=some (.bool y.weak):=(bcell HT.out.2).1 _ _ (cell_lt (hcb 7 _ (by rw[hrb];rfl))) |>.trans (hcb 7 _ (by rw[hrb];rfl))
    have hjc:j < c:=by omega
    have hjd:j < d:=by omega
    have HBD:Hid (∀ k,Below w.heap.size w (wr.drewN k)):=lh fun k=>⟨HT.out.2.os,HT.out.2.tape,HT.out.2.output,HT.out.2.size,HT.out.2.block⟩
    have hne:=fun W=>neq_rf W x y
    clear hx hy hca hcb hra hrb hlt2
    by_cases he:x=y
    ·subst he
     rw[show decide (x≠x)=false by simp] at hne
     go_upto_region 6 with fail
     go_quiet (fail)
     go_wp2_with fail
     go_roundw
     case rel=>exact⟨j+1,by go_num,hlt,by rw[List.take_add_one,List.take_add_one,HXY.out.1,HXY.out.2,HT.out.1],HBD.out _⟩
     case measure=>simp[intOf];omega
    ·have HE:Hid (decide (a=b)=false):=lh (decide_eq_false fun e=>he (by have h1:=HXY.out.1;rw[e,HXY.out.2] at h1;injection h1 with h1;exact h1.symm))
     rw[show decide (x≠y)=true by simpa using he] at hne
     clear he
     go_upto_region 6 with fail
     go_quiet (fail)
     go_wp2_with fail
     go_ret
     rw[HE.out]
     exact⟨rfl,HBD.out _⟩
   ·obtain rfl:j=a.length:=by omega
    have he:a=b:=by have:=HT.out.1;rw[List.take_length,HN.out,List.take_length] at this;exact this
    have HE:Hid (decide (a=b)=true):=lh (decide_eq_true he)
    clear hlt hj he
    go_wp2_with fail
    go_ret
    rw[HE.out]
    exact⟨rfl,HT.out.2⟩
 ·have d0:((a.length:Int) != (b.length:Int))=true:=by simpa using (show ¬ (a.length:Int)=b.length by omega)
  have HE:Hid (decide (a=b)=false):=lh (decide_eq_false fun e=>hn (by rw[e]))
  clear ha hb hn hc hd
  go_enter Tryz.func24,Tryz.ntmps24
  go_wp2_with fail
  go_ret
  rw[HE.out]
  exact⟨rfl,Below.refl _ _⟩
set_option maxHeartbeats 4000000 in
theorem SameNeeds_any {w:World} {A B:Option Addr} {c d:Nat} {a b:List Nd} (ha:LsI (flat ndC) 136 3 w A c a) (hb:LsI (flat ndC) 136 3 w B d b):Calls Tryz.prog 48 #[.slice A a.length c,.slice B b.length d] w (YesP w (decide (a=b))):=by
 have hc:=ha.le
 have hd:=hb.le
 by_cases hn:a.length=b.length
 ·have HA:=lh (And.intro ha hb)
  have HN:=lh hn
  rw[← hn] at hd ⊢
  have HB0:Hid (Below w.heap.size w w):=lh (Below.refl _ _)
  have hc1:=hc.1
  have hc2:=hc.2
  have hd1:=hd.1
  clear ha hb hn hc hd
  go_enter Tryz.func48,Tryz.ntmps48
  go_wp2_with fail
  go_loopw [5] (fun ix wr=>∃ j:Nat,ix=.int .i64 (j:Int)∧j≤a.length∧a.take j=b.take j∧Below w.heap.size w wr) (fun ix _=>a.length - (intOf ix).toNat)
  case atStart=>exact⟨0,rfl,Nat.zero_le _,rfl,HB0.out⟩
  case round =>
   obtain⟨j,rfl,hj,ht,hbl⟩:=hrel
   have HT:=lh (And.intro ht hbl)
   clear ht hbl
   by_cases hlt:j < a.length
   ·have hlt2:j < b.length:=by rw[← HN.out];exact hlt
    obtain⟨x,hx⟩:∃ x,a[j]?=some x:=⟨_,List.getElem?_eq_getElem hlt⟩
    obtain⟨y,hy⟩:∃ y,b[j]?=some y:=⟨_,List.getElem?_eq_getElem hlt2⟩
    obtain⟨ba,oa,ra,hA,_,hra,hca⟩:=HA.out.1.get hx
    obtain⟨bb,ob,rb,hB,_,hrb,hcb⟩:=HA.out.2.get hy
    subst hA hB
    have HXY:=lh (And.intro hx hy)
    have e0:wr.cell? ⟨ba,oa+j*3,none⟩=some (.int .i64 x.peer):=(bcell HT.out.2).1 _ _ (cell_lt (hca 0 _ (by rw[hra];rfl))) |>.trans (hca 0 _ (by rw[hra];rfl))
    have f0:wr.cell? ⟨bb,ob+j*3,none⟩=some (.int .i64 y.peer):=(bcell HT.out.2).1 _ _ (cell_lt (hcb 0 _ (by rw[hrb];rfl))) |>.trans (hcb 0 _ (by rw[hrb];rfl))
    have e1:wr.cell? ⟨ba,oa+j*3+1,none⟩=some (.int .u64 x.number):=(bcell HT.out.2).1 _ _ (cell_lt (hca 1 _ (by rw[hra];rfl))) |>.trans (hca 1 _ (by rw[hra];rfl))
    have f1:wr.cell? ⟨bb,ob+j*3+1,none⟩=some (.int .u64 y.number):=(bcell HT.out.2).1 _ _ (cell_lt (hcb 1 _ (by rw[hrb];rfl))) |>.trans (hcb 1 _ (by rw[hrb];rfl))
    have e2:wr.cell? ⟨ba,oa+j*3+2,none⟩=some (.int .i64 x.stamp):=(bcell HT.out.2).1 _ _ (cell_lt (hca 2 _ (by rw[hra];rfl))) |>.trans (hca 2 _ (by rw[hra];rfl))
    have f2:wr.cell? ⟨bb,ob+j*3+2,none⟩=some (.int .i64 y.stamp):=(bcell HT.out.2).1 _ _ (cell_lt (hcb 2 _ (by rw[hrb];rfl))) |>.trans (hcb 2 _ (by rw[hrb];rfl))
    have hjc:j < c:=by omega
    have hjd:j < d:=by omega
    have HBD:Hid (∀ k,Below w.heap.size w (wr.drewN k)):=lh fun k=>⟨HT.out.2.os,HT.out.2.tape,HT.out.2.output,HT.out.2.size,HT.out.2.block⟩
    have hne:=fun W=>neq_nd W x y
    clear hx hy hca hcb hra hrb hlt2
    by_cases he:x=y
    ·subst he
     rw[show decide (x≠x)=false by simp] at hne
     go_upto_region 6 with fail
     go_quiet (fail)
     go_wp2_with fail
     go_roundw
     case rel=>exact⟨j+1,by go_num,hlt,by rw[List.take_add_one,List.take_add_one,HXY.out.1,HXY.out.2,HT.out.1],HBD.out _⟩
     case measure=>simp[intOf];omega
    ·have HE:Hid (decide (a=b)=false):=lh (decide_eq_false fun e=>he (by have h1:=HXY.out.1;rw[e,HXY.out.2] at h1;injection h1 with h1;exact h1.symm))
     rw[show decide (x≠y)=true by simpa using he] at hne
     clear he
     go_upto_region 6 with fail
     go_quiet (fail)
     go_wp2_with fail
     go_ret
     rw[HE.out]
     exact⟨rfl,HBD.out _⟩
   ·obtain rfl:j=a.length:=by omega
    have he:a=b:=by have:=HT.out.1;rw[List.take_length,HN.out,List.take_length] at this;exact this
    have HE:Hid (decide (a=b)=true):=lh (decide_eq_true he)
    clear hlt hj he
    go_wp2_with fail
    go_ret
    rw[HE.out]
    exact⟨rfl,HT.out.2⟩
 ·have d0:((a.length:Int) != (b.length:Int))=true:=by simpa using (show ¬ (a.length:Int)=b.length by omega)
  have HE:Hid (decide (a=b)=false):=lh (decide_eq_false fun e=>hn (by rw[e]))
  clear ha hb hn hc hd
  go_enter Tryz.func48,Tryz.ntmps48
  go_wp2_with fail
  go_ret
  rw[HE.out]
  exact⟨rfl,Below.refl _ _⟩
end
section
open Go.RowKit
attribute [local go_sem] Oper.semAt_some
set_option maxHeartbeats 1000000 in
theorem eql_id (w:World) (a b c d:Int):(binOp .eql 24 (.agg #[.int .i64 a,.int .i64 b]) (.agg #[.int .i64 c,.int .i64 d])).run Tryz.prog w=.ok (.bool (decide (a=c∧b=d))) w:=by
 go_simp
 repeat' split
 all_goals simp_all
set_option maxHeartbeats 1000000 in
theorem neq_id (w:World) (a b c d:Int):(binOp .neq 24 (.agg #[.int .i64 a,.int .i64 b]) (.agg #[.int .i64 c,.int .i64 d])).run Tryz.prog w=.ok (.bool (!decide (a=c∧b=d))) w:=by
 go_simp
 repeat' split
 all_goals simp_all
theorem lt_eq (x y:Lt):decide (x=y)=(decide (x.idm=y.idm∧x.ids=y.ids) && decide (x.meth=y.meth) && decide (x.args=y.args)):=by
 cases x;cases y;simp[Bool.decide_and,and_assoc,Bool.and_assoc]
theorem cl_eq (x y:Cl):decide (x=y)=(decide (x.machine=y.machine) && decide (x.epoch=y.epoch) && decide (x.stubs=y.stubs) && decide (x.scions=y.scions) && decide (x.checks=y.checks)):=by
 cases x;cases y;simp[Bool.decide_and,and_assoc,Bool.and_assoc]
set_option maxHeartbeats 8000000 in
theorem SameLetter_any {w:World} {x y:Lt} {A1 B1:Option Addr} {c1 d1:Nat} (hx1:LsI (flat rfC) 26 8 w A1 c1 x.args) (hy1:LsI (flat rfC) 26 8 w B1 d1 y.args):Calls Tryz.prog 29 #[.agg #[.int .i64 x.idm,.int .i64 x.ids,.string x.meth,.slice A1 x.args.length c1],.agg #[.int .i64 y.idm,.int .i64 y.ids,.string y.meth,.slice B1 y.args.length d1]] w (YesP w (decide (x=y))):=by
 obtain⟨R,hR⟩:∃ R,R=decide (x=y):=⟨_,rfl⟩
 rw[← hR]
 have HR:=lh hR
 obtain⟨W,hW⟩:∃ W,W=(w.alloc (.cells #[.int .i64 x.idm,.int .i64 x.ids,.string x.meth,.slice A1 x.args.length c1] 29)).alloc (.cells #[.int .i64 y.idm,.int .i64 y.ids,.string y.meth,.slice B1 y.args.length d1] 29):=⟨_,rfl⟩
 obtain⟨g,hg⟩:∃ g,g=w.heap.size:=⟨_,rfl⟩
 have hb0:Below w.heap.size w W:=by rw[hW];exact((Below.refl _ _).alloc (Nat.le_refl _) _).alloc (by simp) _
 have hk0:Bk W g 29 #[.int .i64 x.idm,.int .i64 x.ids,.string x.meth,.slice A1 x.args.length c1]:=by rw[hW,hg];exact(Bk.new _ _ _).alloc _
 have hj0:Bk W (g+1) 29 #[.int .i64 y.idm,.int .i64 y.ids,.string y.meth,.slice B1 y.args.length d1]:=by rw[hW,hg];have:=Bk.new (w.alloc (.cells #[.int .i64 x.idm,.int .i64 x.ids,.string x.meth,.slice A1 x.args.length c1] 29)) 29 #[.int .i64 y.idm,.int .i64 y.ids,.string y.meth,.slice B1 y.args.length d1];simpa using this
 have MX10:Hid (LsI (flat rfC) 26 8 W A1 c1 x.args):=lh (hx1.below (flat_ru _) (flat_rk _) hb0)
 have MY10:Hid (LsI (flat rfC) 26 8 W B1 d1 y.args):=lh (hy1.below (flat_ru _) (flat_rk _) hb0)
 have xa0:W.cell? ⟨g,0,none⟩=some (.int .i64 x.idm):=hk0.cell 0
 have xa1:W.cell? ⟨g,1,none⟩=some (.int .i64 x.ids):=hk0.cell 1
 have xa2:W.cell? ⟨g,2,none⟩=some (.string x.meth):=hk0.cell 2
 have xa3:W.cell? ⟨g,3,none⟩=some (.slice A1 x.args.length c1):=hk0.cell 3
 have ya0:W.cell? ⟨g+1,0,none⟩=some (.int .i64 y.idm):=hj0.cell 0
 have ya1:W.cell? ⟨g+1,1,none⟩=some (.int .i64 y.ids):=hj0.cell 1
 have ya2:W.cell? ⟨g+1,2,none⟩=some (.string y.meth):=hj0.cell 2
 have ya3:W.cell? ⟨g+1,3,none⟩=some (.slice B1 y.args.length d1):=hj0.cell 3
 have HK0:=lh hk0
 have HJ0:=lh hj0
 have HB0:=lh hb0
 clear hb0 hk0 hj0 hR hx1 hy1
 go_enter Tryz.func29,Tryz.ntmps29
 go_upto_region 1 with fail
 rw[← hW,← hg]
 clear hW hg
 cases h0:decide (x.idm=y.idm∧x.ids=y.ids) with
 | true =>
  have q0:∀ W,(binOp .eql 24 (.agg #[.int .i64 x.idm,.int .i64 x.ids]) (.agg #[.int .i64 y.idm,.int .i64 y.ids])).run Tryz.prog W=.ok (.bool true) W:=fun W=>by rw[eql_id,h0]
  have H0:=lh h0
  clear h0
  cases h1:decide (x.meth=y.meth) with
  | true =>
   have q1:(x.meth.toList == y.meth.toList)=true:=by rw[bytes_eq];exact h1
   have H1:=lh h1
   clear h1
   cases h2:decide (x.args=y.args) with
   | true =>
    have c2:=SameRefs_any MX10.out MY10.out
    rw[h2] at c2
    have H2:=lh h2
    clear h2
    go_wp2_with fail
    refine c2.mono ?_
    rintro e w1 ⟨rfl,hb1⟩
    have HB1:=lh (HB0.out.trans (hb1.mono HB0.out.size))
    clear hb1 c2 xa0 ya0 xa1 ya1 xa2 ya2 xa3 ya3
    go_wp2_with fail
    go_ret
    refine⟨congrArg (fun b=>Ending.returned (Value.bool b)) ?_,HB1.out⟩
    rw[HR.out,lt_eq]
    simp[H0.out,H1.out,H2.out]
   | false =>
    have c2:=SameRefs_any MX10.out MY10.out
    rw[h2] at c2
    have H2:=lh h2
    clear h2
    go_wp2_with fail
    refine c2.mono ?_
    rintro e w1 ⟨rfl,hb1⟩
    have HB1:=lh (HB0.out.trans (hb1.mono HB0.out.size))
    clear hb1 c2 xa0 ya0 xa1 ya1 xa2 ya2 xa3 ya3
    go_wp2_with fail
    go_ret
    refine⟨congrArg (fun b=>Ending.returned (Value.bool b)) ?_,HB1.out⟩
    rw[HR.out,lt_eq]
    simp[H0.out,H1.out,H2.out]
  | false =>
   have q1:(x.meth.toList == y.meth.toList)=false:=by rw[bytes_eq];exact h1
   have H1:=lh h1
   clear h1
   go_wp2_with fail
   go_ret
   refine⟨congrArg (fun b=>Ending.returned (Value.bool b)) ?_,HB0.out⟩
   rw[HR.out,lt_eq]
   simp[H0.out,H1.out]
 | false =>
  have q0:∀ W,(binOp .eql 24 (.agg #[.int .i64 x.idm,.int .i64 x.ids]) (.agg #[.int .i64 y.idm,.int .i64 y.ids])).run Tryz.prog W=.ok (.bool false) W:=fun W=>by rw[eql_id,h0]
  have H0:=lh h0
  clear h0
  go_wp2_with fail
  go_ret
  refine⟨congrArg (fun b=>Ending.returned (Value.bool b)) ?_,HB0.out⟩
  rw[HR.out,lt_eq]
  simp[H0.out]
set_option maxHeartbeats 8000000 in
theorem SameClaim_any {w:World} {x y:Cl} {A6 B6:Option Addr} {c6 d6:Nat} {A7 B7:Option Addr} {c7 d7:Nat} {A8 B8:Option Addr} {c8 d8:Nat} (hx6:LsI (flat ndC) 136 3 w A6 c6 x.stubs) (hy6:LsI (flat ndC) 136 3 w B6 d6 y.stubs) (hx7:LsI (flat ndC) 136 3 w A7 c7 x.scions) (hy7:LsI (flat ndC) 136 3 w B7 d7 y.scions) (hx8:LsI (flat ndC) 136 3 w A8 c8 x.checks) (hy8:LsI (flat ndC) 136 3 w B8 d8 y.checks):Calls Tryz.prog 32 #[.agg #[.int .i64 x.machine,.int .i64 x.epoch,.slice A6 x.stubs.length c6,.slice A7 x.scions.length c7,.slice A8 x.checks.length c8],.agg #[.int .i64 y.machine,.int .i64 y.epoch,.slice B6 y.stubs.length d6,.slice B7 y.scions.length d7,.slice B8 y.checks.length d8]] w (YesP w (decide (x=y))):=by
 obtain⟨R,hR⟩:∃ R,R=decide (x=y):=⟨_,rfl⟩
 rw[← hR]
 have HR:=lh hR
 obtain⟨W,hW⟩:∃ W,W=(w.alloc (.cells #[.int .i64 x.machine,.int .i64 x.epoch,.slice A6 x.stubs.length c6,.slice A7 x.scions.length c7,.slice A8 x.checks.length c8] 40)).alloc (.cells #[.int .i64 y.machine,.int .i64 y.epoch,.slice B6 y.stubs.length d6,.slice B7 y.scions.length d7,.slice B8 y.checks.length d8] 40):=⟨_,rfl⟩
 obtain⟨g,hg⟩:∃ g,g=w.heap.size:=⟨_,rfl⟩
 have hb0:Below w.heap.size w W:=by rw[hW];exact((Below.refl _ _).alloc (Nat.le_refl _) _).alloc (by simp) _
 have hk0:Bk W g 40 #[.int .i64 x.machine,.int .i64 x.epoch,.slice A6 x.stubs.length c6,.slice A7 x.scions.length c7,.slice A8 x.checks.length c8]:=by rw[hW,hg];exact(Bk.new _ _ _).alloc _
 have hj0:Bk W (g+1) 40 #[.int .i64 y.machine,.int .i64 y.epoch,.slice B6 y.stubs.length d6,.slice B7 y.scions.length d7,.slice B8 y.checks.length d8]:=by rw[hW,hg];have:=Bk.new (w.alloc (.cells #[.int .i64 x.machine,.int .i64 x.epoch,.slice A6 x.stubs.length c6,.slice A7 x.scions.length c7,.slice A8 x.checks.length c8] 40)) 40 #[.int .i64 y.machine,.int .i64 y.epoch,.slice B6 y.stubs.length d6,.slice B7 y.scions.length d7,.slice B8 y.checks.length d8];simpa using this
 have MX60:Hid (LsI (flat ndC) 136 3 W A6 c6 x.stubs):=lh (hx6.below (flat_ru _) (flat_rk _) hb0)
 have MY60:Hid (LsI (flat ndC) 136 3 W B6 d6 y.stubs):=lh (hy6.below (flat_ru _) (flat_rk _) hb0)
 have MX70:Hid (LsI (flat ndC) 136 3 W A7 c7 x.scions):=lh (hx7.below (flat_ru _) (flat_rk _) hb0)
 have MY70:Hid (LsI (flat ndC) 136 3 W B7 d7 y.scions):=lh (hy7.below (flat_ru _) (flat_rk _) hb0)
 have MX80:Hid (LsI (flat ndC) 136 3 W A8 c8 x.checks):=lh (hx8.below (flat_ru _) (flat_rk _) hb0)
 have MY80:Hid (LsI (flat ndC) 136 3 W B8 d8 y.checks):=lh (hy8.below (flat_ru _) (flat_rk _) hb0)
 have xa0:W.cell? ⟨g,0,none⟩=some (.int .i64 x.machine):=hk0.cell 0
 have xa1:W.cell? ⟨g,1,none⟩=some (.int .i64 x.epoch):=hk0.cell 1
 have xa2:W.cell? ⟨g,2,none⟩=some (.slice A6 x.stubs.length c6):=hk0.cell 2
 have xa3:W.cell? ⟨g,3,none⟩=some (.slice A7 x.scions.length c7):=hk0.cell 3
 have xa4:W.cell? ⟨g,4,none⟩=some (.slice A8 x.checks.length c8):=hk0.cell 4
 have ya0:W.cell? ⟨g+1,0,none⟩=some (.int .i64 y.machine):=hj0.cell 0
 have ya1:W.cell? ⟨g+1,1,none⟩=some (.int .i64 y.epoch):=hj0.cell 1
 have ya2:W.cell? ⟨g+1,2,none⟩=some (.slice B6 y.stubs.length d6):=hj0.cell 2
 have ya3:W.cell? ⟨g+1,3,none⟩=some (.slice B7 y.scions.length d7):=hj0.cell 3
 have ya4:W.cell? ⟨g+1,4,none⟩=some (.slice B8 y.checks.length d8):=hj0.cell 4
 have HK0:=lh hk0
 have HJ0:=lh hj0
 have HB0:=lh hb0
 clear hb0 hk0 hj0 hR hx6 hy6 hx7 hy7 hx8 hy8
 go_enter Tryz.func32,Tryz.ntmps32
 go_upto_region 1 with fail
 rw[← hW,← hg]
 clear hW hg
 cases h0:decide (x.machine=y.machine) with
 | true =>
  have q0:(x.machine == y.machine)=true:=h0
  have H0:=lh h0
  clear h0
  cases h1:decide (x.epoch=y.epoch) with
  | true =>
   have q1:(x.epoch == y.epoch)=true:=h1
   have H1:=lh h1
   clear h1
   cases h2:decide (x.stubs=y.stubs) with
   | true =>
    have c2:=SameNeeds_any MX60.out MY60.out
    rw[h2] at c2
    have H2:=lh h2
    clear h2
    go_wp2_with fail
    refine c2.mono ?_
    rintro e w1 ⟨rfl,hb1⟩
    have HB1:=lh (HB0.out.trans (hb1.mono HB0.out.size))
    have hk1:=HK0.out.below hb1 HK0.out.lt
    have hj1:=HJ0.out.below hb1 HJ0.out.lt
    have MX61:Hid (LsI (flat ndC) 136 3 w1 A6 c6 x.stubs):=lh (MX60.out.below (flat_ru _) (flat_rk _) hb1)
    have MY61:Hid (LsI (flat ndC) 136 3 w1 B6 d6 y.stubs):=lh (MY60.out.below (flat_ru _) (flat_rk _) hb1)
    have MX71:Hid (LsI (flat ndC) 136 3 w1 A7 c7 x.scions):=lh (MX70.out.below (flat_ru _) (flat_rk _) hb1)
    have MY71:Hid (LsI (flat ndC) 136 3 w1 B7 d7 y.scions):=lh (MY70.out.below (flat_ru _) (flat_rk _) hb1)
    have MX81:Hid (LsI (flat ndC) 136 3 w1 A8 c8 x.checks):=lh (MX80.out.below (flat_ru _) (flat_rk _) hb1)
    have MY81:Hid (LsI (flat ndC) 136 3 w1 B8 d8 y.checks):=lh (MY80.out.below (flat_ru _) (flat_rk _) hb1)
    have xb0:w1.cell? ⟨g,0,none⟩=some (.int .i64 x.machine):=hk1.cell 0
    have xb1:w1.cell? ⟨g,1,none⟩=some (.int .i64 x.epoch):=hk1.cell 1
    have xb2:w1.cell? ⟨g,2,none⟩=some (.slice A6 x.stubs.length c6):=hk1.cell 2
    have xb3:w1.cell? ⟨g,3,none⟩=some (.slice A7 x.scions.length c7):=hk1.cell 3
    have xb4:w1.cell? ⟨g,4,none⟩=some (.slice A8 x.checks.length c8):=hk1.cell 4
    have yb0:w1.cell? ⟨g+1,0,none⟩=some (.int .i64 y.machine):=hj1.cell 0
    have yb1:w1.cell? ⟨g+1,1,none⟩=some (.int .i64 y.epoch):=hj1.cell 1
    have yb2:w1.cell? ⟨g+1,2,none⟩=some (.slice B6 y.stubs.length d6):=hj1.cell 2
    have yb3:w1.cell? ⟨g+1,3,none⟩=some (.slice B7 y.scions.length d7):=hj1.cell 3
    have yb4:w1.cell? ⟨g+1,4,none⟩=some (.slice B8 y.checks.length d8):=hj1.cell 4
    have HK1:=lh hk1
    have HJ1:=lh hj1
    clear hb1 hk1 hj1 c2 xa0 ya0 xa1 ya1 xa2 ya2 xa3 ya3 xa4 ya4
    cases h3:decide (x.scions=y.scions) with
    | true =>
     have c3:=SameNeeds_any MX71.out MY71.out
     rw[h3] at c3
     have H3:=lh h3
     clear h3
     go_wp2_with fail
     refine c3.mono ?_
     rintro e w2 ⟨rfl,hb2⟩
     have HB2:=lh (HB1.out.trans (hb2.mono HB1.out.size))
     have hk2:=HK1.out.below hb2 HK1.out.lt
     have hj2:=HJ1.out.below hb2 HJ1.out.lt
     have MX62:Hid (LsI (flat ndC) 136 3 w2 A6 c6 x.stubs):=lh (MX61.out.below (flat_ru _) (flat_rk _) hb2)
     have MY62:Hid (LsI (flat ndC) 136 3 w2 B6 d6 y.stubs):=lh (MY61.out.below (flat_ru _) (flat_rk _) hb2)
     have MX72:Hid (LsI (flat ndC) 136 3 w2 A7 c7 x.scions):=lh (MX71.out.below (flat_ru _) (flat_rk _) hb2)
     have MY72:Hid (LsI (flat ndC) 136 3 w2 B7 d7 y.scions):=lh (MY71.out.below (flat_ru _) (flat_rk _) hb2)
     have MX82:Hid (LsI (flat ndC) 136 3 w2 A8 c8 x.checks):=lh (MX81.out.below (flat_ru _) (flat_rk _) hb2)
     have MY82:Hid (LsI (flat ndC) 136 3 w2 B8 d8 y.checks):=lh (MY81.out.below (flat_ru _) (flat_rk _) hb2)
     have xc0:w2.cell? ⟨g,0,none⟩=some (.int .i64 x.machine):=hk2.cell 0
     have xc1:w2.cell? ⟨g,1,none⟩=some (.int .i64 x.epoch):=hk2.cell 1
     have xc2:w2.cell? ⟨g,2,none⟩=some (.slice A6 x.stubs.length c6):=hk2.cell 2
     have xc3:w2.cell? ⟨g,3,none⟩=some (.slice A7 x.scions.length c7):=hk2.cell 3
     have xc4:w2.cell? ⟨g,4,none⟩=some (.slice A8 x.checks.length c8):=hk2.cell 4
     have yc0:w2.cell? ⟨g+1,0,none⟩=some (.int .i64 y.machine):=hj2.cell 0
     have yc1:w2.cell? ⟨g+1,1,none⟩=some (.int .i64 y.epoch):=hj2.cell 1
     have yc2:w2.cell? ⟨g+1,2,none⟩=some (.slice B6 y.stubs.length d6):=hj2.cell 2
     have yc3:w2.cell? ⟨g+1,3,none⟩=some (.slice B7 y.scions.length d7):=hj2.cell 3
     have yc4:w2.cell? ⟨g+1,4,none⟩=some (.slice B8 y.checks.length d8):=hj2.cell 4
     have HK2:=lh hk2
     have HJ2:=lh hj2
     clear hb2 hk2 hj2 c3 xb0 yb0 xb1 yb1 xb2 yb2 xb3 yb3 xb4 yb4
     cases h4:decide (x.checks=y.checks) with
     | true =>
      have c4:=SameNeeds_any MX82.out MY82.out
      rw[h4] at c4
      have H4:=lh h4
      clear h4
      go_wp2_with fail
      refine c4.mono ?_
      rintro e w3 ⟨rfl,hb3⟩
      have HB3:=lh (HB2.out.trans (hb3.mono HB2.out.size))
      clear hb3 c4 xc0 yc0 xc1 yc1 xc2 yc2 xc3 yc3 xc4 yc4
      go_wp2_with fail
      go_ret
      refine⟨congrArg (fun b=>Ending.returned (Value.bool b)) ?_,HB3.out⟩
      rw[HR.out,cl_eq]
      simp[H0.out,H1.out,H2.out,H3.out,H4.out]
     | false =>
      have c4:=SameNeeds_any MX82.out MY82.out
      rw[h4] at c4
      have H4:=lh h4
      clear h4
      go_wp2_with fail
      refine c4.mono ?_
      rintro e w3 ⟨rfl,hb3⟩
      have HB3:=lh (HB2.out.trans (hb3.mono HB2.out.size))
      clear hb3 c4 xc0 yc0 xc1 yc1 xc2 yc2 xc3 yc3 xc4 yc4
      go_wp2_with fail
      go_ret
      refine⟨congrArg (fun b=>Ending.returned (Value.bool b)) ?_,HB3.out⟩
      rw[HR.out,cl_eq]
      simp[H0.out,H1.out,H2.out,H3.out,H4.out]
    | false =>
     have c3:=SameNeeds_any MX71.out MY71.out
     rw[h3] at c3
     have H3:=lh h3
     clear h3
     go_wp2_with fail
     refine c3.mono ?_
     rintro e w2 ⟨rfl,hb2⟩
     have HB2:=lh (HB1.out.trans (hb2.mono HB1.out.size))
     clear hb2 c3 xb0 yb0 xb1 yb1 xb2 yb2 xb3 yb3 xb4 yb4
     go_wp2_with fail
     go_ret
     refine⟨congrArg (fun b=>Ending.returned (Value.bool b)) ?_,HB2.out⟩
     rw[HR.out,cl_eq]
     simp[H0.out,H1.out,H2.out,H3.out]
   | false =>
    have c2:=SameNeeds_any MX60.out MY60.out
    rw[h2] at c2
    have H2:=lh h2
    clear h2
    go_wp2_with fail
    refine c2.mono ?_
    rintro e w1 ⟨rfl,hb1⟩
    have HB1:=lh (HB0.out.trans (hb1.mono HB0.out.size))
    clear hb1 c2 xa0 ya0 xa1 ya1 xa2 ya2 xa3 ya3 xa4 ya4
    go_wp2_with fail
    go_ret
    refine⟨congrArg (fun b=>Ending.returned (Value.bool b)) ?_,HB1.out⟩
    rw[HR.out,cl_eq]
    simp[H0.out,H1.out,H2.out]
  | false =>
   have q1:(x.epoch == y.epoch)=false:=h1
   have H1:=lh h1
   clear h1
   go_wp2_with fail
   go_ret
   refine⟨congrArg (fun b=>Ending.returned (Value.bool b)) ?_,HB0.out⟩
   rw[HR.out,cl_eq]
   simp[H0.out,H1.out]
 | false =>
  have q0:(x.machine == y.machine)=false:=h0
  have H0:=lh h0
  clear h0
  go_wp2_with fail
  go_ret
  refine⟨congrArg (fun b=>Ending.returned (Value.bool b)) ?_,HB0.out⟩
  rw[HR.out,cl_eq]
  simp[H0.out]
end
section
open Go.RowKit Go.Sort
attribute [local go_sem] Oper.semAt_some
theorem quiet_below_one {w w3:World} (h:∃ p:Regrown,w3=grow (redrawn w p.d) p.os):Below w.heap.size w w3:=by obtain⟨pp,rfl⟩:=h;exact below_regrown _ _ _
theorem len_ne {a b:Nat}:((a:Int) != (b:Int))=!decide (a=b):=by
 by_cases h:a=b
 ·subst h;simp
 ·have:¬ (a:Int)=b:=by omega
  simp[h,this]
theorem neq_bool (w:World) (a b:Bool):(binOp .neq 4 (.bool a) (.bool b)).run Tryz.prog w=.ok (.bool (!decide (a=b))) w:=by
 go_simp
 cases a <;> cases b <;> rfl
theorem an_eq (x y:An):decide (x=y)=(decide (x.machine=y.machine) && decide (x.owner=y.owner) && decide (x.number=y.number) && decide (x.epoch=y.epoch) && decide (x.known=y.known) && decide (x.rooted=y.rooted) && decide (x.last=y.last) && decide (x.inset.length=y.inset.length) && decide (x.inset=y.inset)):=by
 cases x;cases y
 simp only[An.mk.injEq]
 rw[Bool.eq_iff_iff]
 simp only[decide_eq_true_eq,Bool.and_eq_true]
 exact⟨fun⟨a,b,c,d,e,f,g,h⟩=>⟨⟨⟨⟨⟨⟨⟨⟨a,b⟩,c⟩,d⟩,e⟩,f⟩,g⟩,by rw[h]⟩,h⟩,fun⟨⟨⟨⟨⟨⟨⟨⟨a,b⟩,c⟩,d⟩,e⟩,f⟩,g⟩,_⟩,h⟩=>⟨a,b,c,d,e,f,g,h⟩⟩
theorem pc_eq (x y:Pc):decide (x=y)=(decide (x.number=y.number) && decide (x.idm=y.idm∧x.ids=y.ids) && decide (x.kind=y.kind) && decide (x.cls=y.cls) && decide (x.fields=y.fields) && decide (x.mail.length=y.mail.length) && decide (x.watches.length=y.watches.length) && decide (x.mail=y.mail) && decide (x.watches=y.watches)):=by
 cases x;cases y
 simp only[Pc.mk.injEq]
 rw[Bool.eq_iff_iff]
 simp only[decide_eq_true_eq,Bool.and_eq_true]
 exact⟨fun⟨a,b,c,d,e,f,g,h⟩=>⟨⟨⟨⟨⟨⟨⟨⟨a,b,c⟩,d⟩,e⟩,f⟩,by rw[g]⟩,by rw[h]⟩,g⟩,h⟩,fun⟨⟨⟨⟨⟨⟨⟨⟨a,b,c⟩,d⟩,e⟩,f⟩,_⟩,_⟩,g⟩,h⟩=>⟨a,b,c,d,e,f,g,h⟩⟩
theorem wa_of {x y:Wa} (h0:x.idm=y.idm) (h1:x.ids=y.ids) (h2:x.meth.toList=y.meth.toList) (h3:x.key=y.key) (h4:x.tgt.kind=y.tgt.kind) (h5:x.tgt.int=y.tgt.int) (h6:x.tgt.owner=y.tgt.owner) (h7:x.tgt.number=y.tgt.number) (h8:x.tgt.idm=y.tgt.idm) (h9:x.tgt.ids=y.tgt.ids) (h10:x.tgt.cls=y.tgt.cls) (h11:x.tgt.weak=y.tgt.weak):x=y:=by
 have hm:x.meth=y.meth:=by rw[Go.ByteArray.toList_eq,Go.ByteArray.toList_eq] at h2;exact Go.WideShapes.bytes_inj h2
 obtain⟨x0,x1,x2,x3,x4,x5,x6,x7,x8,x9,x10,x11⟩:=x
 obtain⟨y0,y1,y2,y3,y4,y5,y6,y7,y8,y9,y10,y11⟩:=y
 simp only at *
 simp only[Wa.mk.injEq,Rf.mk.injEq]
 exact⟨h0,h1,hm,h3,h4,h5,h6,h7,h8,h9,h10,h11⟩
set_option maxHeartbeats 2000000 in
theorem neq_wa (w:World) (x y:Wa):(binOp .neq 65 (.agg #[.int .i64 x.idm,.int .i64 x.ids,.string x.meth,.int .i64 x.key,.int .i64 x.tgt.kind,.int .i64 x.tgt.int,.int .i64 x.tgt.owner,.int .u64 x.tgt.number,.int .i64 x.tgt.idm,.int .i64 x.tgt.ids,.int .i64 x.tgt.cls,.bool x.tgt.weak]) (.agg #[.int .i64 y.idm,.int .i64 y.ids,.string y.meth,.int .i64 y.key,.int .i64 y.tgt.kind,.int .i64 y.tgt.int,.int .i64 y.tgt.owner,.int .u64 y.tgt.number,.int .i64 y.tgt.idm,.int .i64 y.tgt.ids,.int .i64 y.tgt.cls,.bool y.tgt.weak])).run Tryz.prog w=.ok (.bool (decide (x≠y))) w:=by
 go_simp
 by_cases h:x=y
 ·subst h;simp
 ·rw[decide_eq_false h]
  by_cases h0:x.idm=y.idm
  rotate_left
  ·rw[if_neg h0];rfl
  rw[if_pos h0]
  by_cases h1:x.ids=y.ids
  rotate_left
  ·rw[if_neg h1];rfl
  rw[if_pos h1]
  by_cases h2:x.meth.toList=y.meth.toList
  rotate_left
  ·rw[if_neg h2];rfl
  rw[if_pos h2]
  by_cases h3:x.key=y.key
  rotate_left
  ·rw[if_neg h3];rfl
  rw[if_pos h3]
  by_cases h4:x.tgt.kind=y.tgt.kind
  rotate_left
  ·rw[if_neg h4];rfl
  rw[if_pos h4]
  by_cases h5:x.tgt.int=y.tgt.int
  rotate_left
  ·rw[if_neg h5];rfl
  rw[if_pos h5]
  by_cases h6:x.tgt.owner=y.tgt.owner
  rotate_left
  ·rw[if_neg h6];rfl
  rw[if_pos h6]
  by_cases h7:x.tgt.number=y.tgt.number
  rotate_left
  ·rw[if_neg h7];rfl
  rw[if_pos h7]
  by_cases h8:x.tgt.idm=y.tgt.idm
  rotate_left
  ·rw[if_neg h8];rfl
  rw[if_pos h8]
  by_cases h9:x.tgt.ids=y.tgt.ids
  rotate_left
  ·rw[if_neg h9];rfl
  rw[if_pos h9]
  by_cases h10:x.tgt.cls=y.tgt.cls
  rotate_left
  ·rw[if_neg h10];rfl
  rw[if_pos h10]
  by_cases h11:x.tgt.weak=y.tgt.weak
  rotate_left
  ·rw[if_neg h11];rfl
  rw[if_pos h11]
  exact absurd (wa_of h0 h1 h2 h3 h4 h5 h6 h7 h8 h9 h10 h11) h
set_option maxHeartbeats 8000000 in
theorem SameAnswer_any {w:World} {x y:An} {A5 B5:Option Addr} {c5 d5:Nat} (hx5:LsI (flat inC) 99 3 w A5 c5 x.inset) (hy5:LsI (flat inC) 99 3 w B5 d5 y.inset):Calls Tryz.prog 31 #[.agg #[.int .i64 x.machine,.int .i64 x.owner,.int .u64 x.number,.int .i64 x.epoch,.bool x.known,.bool x.rooted,.int .i64 x.last,.slice A5 x.inset.length c5],.agg #[.int .i64 y.machine,.int .i64 y.owner,.int .u64 y.number,.int .i64 y.epoch,.bool y.known,.bool y.rooted,.int .i64 y.last,.slice B5 y.inset.length d5]] w (YesP w (decide (x=y))):=by
 obtain⟨R,hR⟩:∃ R,R=decide (x=y):=⟨_,rfl⟩
 rw[← hR]
 have HR:=lh hR
 obtain⟨W,hW⟩:∃ W,W=(w.alloc (.cells #[.int .i64 x.machine,.int .i64 x.owner,.int .u64 x.number,.int .i64 x.epoch,.bool x.known,.bool x.rooted,.int .i64 x.last,.slice A5 x.inset.length c5] 37)).alloc (.cells #[.int .i64 y.machine,.int .i64 y.owner,.int .u64 y.number,.int .i64 y.epoch,.bool y.known,.bool y.rooted,.int .i64 y.last,.slice B5 y.inset.length d5] 37):=⟨_,rfl⟩
 obtain⟨g,hg⟩:∃ g,g=w.heap.size:=⟨_,rfl⟩
 have hb0:Below w.heap.size w W:=by rw[hW];exact((Below.refl _ _).alloc (Nat.le_refl _) _).alloc (by simp) _
 have hk0:Bk W g 37 #[.int .i64 x.machine,.int .i64 x.owner,.int .u64 x.number,.int .i64 x.epoch,.bool x.known,.bool x.rooted,.int .i64 x.last,.slice A5 x.inset.length c5]:=by rw[hW,hg];exact(Bk.new _ _ _).alloc _
 have hj0:Bk W (g+1) 37 #[.int .i64 y.machine,.int .i64 y.owner,.int .u64 y.number,.int .i64 y.epoch,.bool y.known,.bool y.rooted,.int .i64 y.last,.slice B5 y.inset.length d5]:=by rw[hW,hg];have:=Bk.new (w.alloc (.cells #[.int .i64 x.machine,.int .i64 x.owner,.int .u64 x.number,.int .i64 x.epoch,.bool x.known,.bool x.rooted,.int .i64 x.last,.slice A5 x.inset.length c5] 37)) 37 #[.int .i64 y.machine,.int .i64 y.owner,.int .u64 y.number,.int .i64 y.epoch,.bool y.known,.bool y.rooted,.int .i64 y.last,.slice B5 y.inset.length d5];simpa using this
 have MX50:Hid (LsI (flat inC) 99 3 W A5 c5 x.inset):=lh (hx5.below (flat_ru _) (flat_rk _) hb0)
 have MY50:Hid (LsI (flat inC) 99 3 W B5 d5 y.inset):=lh (hy5.below (flat_ru _) (flat_rk _) hb0)
 have xa0:W.cell? ⟨g,0,none⟩=some (.int .i64 x.machine):=hk0.cell 0
 have xa1:W.cell? ⟨g,1,none⟩=some (.int .i64 x.owner):=hk0.cell 1
 have xa2:W.cell? ⟨g,2,none⟩=some (.int .u64 x.number):=hk0.cell 2
 have xa3:W.cell? ⟨g,3,none⟩=some (.int .i64 x.epoch):=hk0.cell 3
 have xa4:W.cell? ⟨g,4,none⟩=some (.bool x.known):=hk0.cell 4
 have xa5:W.cell? ⟨g,5,none⟩=some (.bool x.rooted):=hk0.cell 5
 have xa6:W.cell? ⟨g,6,none⟩=some (.int .i64 x.last):=hk0.cell 6
 have xa7:W.cell? ⟨g,7,none⟩=some (.slice A5 x.inset.length c5):=hk0.cell 7
 have ya0:W.cell? ⟨g+1,0,none⟩=some (.int .i64 y.machine):=hj0.cell 0
 have ya1:W.cell? ⟨g+1,1,none⟩=some (.int .i64 y.owner):=hj0.cell 1
 have ya2:W.cell? ⟨g+1,2,none⟩=some (.int .u64 y.number):=hj0.cell 2
 have ya3:W.cell? ⟨g+1,3,none⟩=some (.int .i64 y.epoch):=hj0.cell 3
 have ya4:W.cell? ⟨g+1,4,none⟩=some (.bool y.known):=hj0.cell 4
 have ya5:W.cell? ⟨g+1,5,none⟩=some (.bool y.rooted):=hj0.cell 5
 have ya6:W.cell? ⟨g+1,6,none⟩=some (.int .i64 y.last):=hj0.cell 6
 have ya7:W.cell? ⟨g+1,7,none⟩=some (.slice B5 y.inset.length d5):=hj0.cell 7
 have HK0:=lh hk0
 have HJ0:=lh hj0
 have HB0:=lh hb0
 clear hb0 hk0 hj0 hR hx5 hy5
 go_enter Tryz.func31,Tryz.ntmps31
 go_upto_region 1 with fail
 rw[← hW,← hg]
 clear hW hg
 cases h0:decide (x.machine=y.machine) with
 | true =>
  have q0:(x.machine != y.machine)=false:=by show(!(x.machine == y.machine))=_;rw[show(x.machine == y.machine)=_ from h0];rfl
  have H0:=lh h0
  clear h0
  cases h1:decide (x.owner=y.owner) with
  | true =>
   have q1:(x.owner != y.owner)=false:=by show(!(x.owner == y.owner))=_;rw[show(x.owner == y.owner)=_ from h1];rfl
   have H1:=lh h1
   clear h1
   cases h2:decide (x.number=y.number) with
   | true =>
    have q2:(x.number != y.number)=false:=by show(!(x.number == y.number))=_;rw[show(x.number == y.number)=_ from h2];rfl
    have H2:=lh h2
    clear h2
    cases h3:decide (x.epoch=y.epoch) with
    | true =>
     have q3:(x.epoch != y.epoch)=false:=by show(!(x.epoch == y.epoch))=_;rw[show(x.epoch == y.epoch)=_ from h3];rfl
     have H3:=lh h3
     clear h3
     cases h4:decide (x.known=y.known) with
     | true =>
      have q4:∀ W,(binOp .neq 4 (.bool x.known) (.bool y.known)).run Tryz.prog W=.ok (.bool false) W:=fun W=>by rw[neq_bool,h4];rfl
      have H4:=lh h4
      clear h4
      cases h5:decide (x.rooted=y.rooted) with
      | true =>
       have q5:∀ W,(binOp .neq 4 (.bool x.rooted) (.bool y.rooted)).run Tryz.prog W=.ok (.bool false) W:=fun W=>by rw[neq_bool,h5];rfl
       have H5:=lh h5
       clear h5
       cases h6:decide (x.last=y.last) with
       | true =>
        have q6:(x.last != y.last)=false:=by show(!(x.last == y.last))=_;rw[show(x.last == y.last)=_ from h6];rfl
        have H6:=lh h6
        clear h6
        cases h7:decide (x.inset.length=y.inset.length) with
        | true =>
         have q7:((x.inset.length:Int) != (y.inset.length:Int))=false:=by rw[len_ne,h7];rfl
         have H7:=lh h7
         clear h7
         have HLEN5:Hid (x.inset.length=y.inset.length):=lh (of_decide_eq_true H7.out)
         have lx5a:=MX50.out.le.1
         have lx5b:=MX50.out.le.2
         have ly5a:=MY50.out.le.1
         have HW5:Hid (Below W.heap.size W W):=lh (Below.refl _ _)
         go_wp2_with fail
         clear xa0 ya0 xa1 ya1 xa2 ya2 xa3 ya3 xa4 ya4 xa5 ya5 xa6 ya6 xa7 ya7
         go_loopw [5] (fun ix wr=>∃ j:Nat,ix=.int .i64 (j:Int)∧j≤x.inset.length∧x.inset.take j=y.inset.take j∧Below W.heap.size W wr) (fun ix _=>x.inset.length - (intOf ix).toNat)
         case atStart=>exact⟨0,rfl,Nat.zero_le _,rfl,HW5.out⟩
         case round =>
          obtain⟨j,rfl,hj,ht,hbl⟩:=hrel
          have HT:=lh (And.intro ht hbl)
          have zx:=(HK0.out.below hbl HK0.out.lt).cell 7
          have zy:=(HJ0.out.below hbl HJ0.out.lt).cell 7
          simp only[List.getElem?_toArray,List.getElem?_cons_zero,List.getElem?_cons_succ] at zx zy
          clear ht hbl
          by_cases hlt:j < x.inset.length
          ·have hlt2:j < y.inset.length:=by rw[← HLEN5.out];exact hlt
           obtain⟨p,hp⟩:∃ p,x.inset[j]?=some p:=⟨_,List.getElem?_eq_getElem hlt⟩
           obtain⟨q,hq⟩:∃ q,y.inset[j]?=some q:=⟨_,List.getElem?_eq_getElem hlt2⟩
           obtain⟨ba,oa,ra,hA,_,hra,hca⟩:=MX50.out.get hp
           obtain⟨bb,ob,rb,hB,_,hrb,hcb⟩:=MY50.out.get hq
           subst hA hB
           have HXY:=lh (And.intro hp hq)
           have e0:wr.cell? ⟨ba,oa+j*3,none⟩=some (.int .i64 p.client):=(bcell HT.out.2).1 _ _ (cell_lt (hca 0 _ (by rw[hra];rfl))) |>.trans (hca 0 _ (by rw[hra];rfl))
           have e1:wr.cell? ⟨ba,oa+j*3+1,none⟩=some (.int .u64 p.number):=(bcell HT.out.2).1 _ _ (cell_lt (hca 1 _ (by rw[hra];rfl))) |>.trans (hca 1 _ (by rw[hra];rfl))
           have e2:wr.cell? ⟨ba,oa+j*3+2,none⟩=some (.int .i64 p.out):=(bcell HT.out.2).1 _ _ (cell_lt (hca 2 _ (by rw[hra];rfl))) |>.trans (hca 2 _ (by rw[hra];rfl))
           have f0:wr.cell? ⟨bb,ob+j*3,none⟩=some (.int .i64 q.client):=(bcell HT.out.2).1 _ _ (cell_lt (hcb 0 _ (by rw[hrb];rfl))) |>.trans (hcb 0 _ (by rw[hrb];rfl))
           have f1:wr.cell? ⟨bb,ob+j*3+1,none⟩=some (.int .u64 q.number):=(bcell HT.out.2).1 _ _ (cell_lt (hcb 1 _ (by rw[hrb];rfl))) |>.trans (hcb 1 _ (by rw[hrb];rfl))
           have f2:wr.cell? ⟨bb,ob+j*3+2,none⟩=some (.int .i64 q.out):=(bcell HT.out.2).1 _ _ (cell_lt (hcb 2 _ (by rw[hrb];rfl))) |>.trans (hcb 2 _ (by rw[hrb];rfl))
           have hjc:j < c5:=by omega
           have hjd:j < d5:=by omega
           have hjm:(j:Int)+1≤9223372036854775807:=by omega
           have HBD:Hid (∀ k,Below W.heap.size W (wr.drewN k)):=lh fun k=>⟨HT.out.2.os,HT.out.2.tape,HT.out.2.output,HT.out.2.size,HT.out.2.block⟩
           have hne:=fun WW=>neq_in WW p q
           clear hp hq hca hcb hra hrb
           by_cases he:p=q
           ·subst he
            rw[show decide (p≠p)=false by simp] at hne
            go_upto_region 6 with fail
            go_quiet (fail)
            go_wp2_with fail
            go_roundw
            case rel=>exact⟨j+1,by go_num,hlt,by rw[List.take_add_one,List.take_add_one,HXY.out.1,HXY.out.2,HT.out.1],HBD.out _⟩
            case measure=>simp[intOf];omega
           ·have HE:Hid (decide (x.inset=y.inset)=false):=lh (decide_eq_false fun e=>he (by have h1:=HXY.out.1;rw[e,HXY.out.2] at h1;injection h1 with h1;exact h1.symm))
            rw[show decide (p≠q)=true by simpa using he] at hne
            clear he
            go_upto_region 6 with fail
            go_quiet (fail)
            go_wp2_with fail
            go_ret
            refine⟨congrArg (fun b=>Ending.returned (Value.bool b)) ?_,HB0.out.trans ((HBD.out _).mono HB0.out.size)⟩
            rw[HR.out,an_eq]
            simp[HE.out]
          ·obtain rfl:j=x.inset.length:=by omega
           have he:x.inset=y.inset:=by have:=HT.out.1;rw[List.take_length,HLEN5.out,List.take_length] at this;exact this
           have HE5:Hid (decide (x.inset=y.inset)=true):=lh (decide_eq_true he)
           clear hlt hj he
           go_wp2_with fail
           go_ret
           refine⟨congrArg (fun b=>Ending.returned (Value.bool b)) ?_,HB0.out.trans (HT.out.2.mono HB0.out.size)⟩
           rw[HR.out,an_eq]
           simp[H0.out,H1.out,H2.out,H3.out,H4.out,H5.out,H6.out,H7.out,HE5.out]
        | false =>
         have q7:((x.inset.length:Int) != (y.inset.length:Int))=true:=by rw[len_ne,h7];rfl
         have H7:=lh h7
         clear h7
         go_wp2_with fail
         go_ret
         refine⟨congrArg (fun b=>Ending.returned (Value.bool b)) ?_,HB0.out⟩
         rw[HR.out,an_eq]
         simp[H0.out,H1.out,H2.out,H3.out,H4.out,H5.out,H6.out,H7.out]
       | false =>
        have q6:(x.last != y.last)=true:=by show(!(x.last == y.last))=_;rw[show(x.last == y.last)=_ from h6];rfl
        have H6:=lh h6
        clear h6
        go_wp2_with fail
        go_ret
        refine⟨congrArg (fun b=>Ending.returned (Value.bool b)) ?_,HB0.out⟩
        rw[HR.out,an_eq]
        simp[H0.out,H1.out,H2.out,H3.out,H4.out,H5.out,H6.out]
      | false =>
       have q5:∀ W,(binOp .neq 4 (.bool x.rooted) (.bool y.rooted)).run Tryz.prog W=.ok (.bool true) W:=fun W=>by rw[neq_bool,h5];rfl
       have H5:=lh h5
       clear h5
       go_wp2_with fail
       go_ret
       refine⟨congrArg (fun b=>Ending.returned (Value.bool b)) ?_,HB0.out⟩
       rw[HR.out,an_eq]
       simp[H0.out,H1.out,H2.out,H3.out,H4.out,H5.out]
     | false =>
      have q4:∀ W,(binOp .neq 4 (.bool x.known) (.bool y.known)).run Tryz.prog W=.ok (.bool true) W:=fun W=>by rw[neq_bool,h4];rfl
      have H4:=lh h4
      clear h4
      go_wp2_with fail
      go_ret
      refine⟨congrArg (fun b=>Ending.returned (Value.bool b)) ?_,HB0.out⟩
      rw[HR.out,an_eq]
      simp[H0.out,H1.out,H2.out,H3.out,H4.out]
    | false =>
     have q3:(x.epoch != y.epoch)=true:=by show(!(x.epoch == y.epoch))=_;rw[show(x.epoch == y.epoch)=_ from h3];rfl
     have H3:=lh h3
     clear h3
     go_wp2_with fail
     go_ret
     refine⟨congrArg (fun b=>Ending.returned (Value.bool b)) ?_,HB0.out⟩
     rw[HR.out,an_eq]
     simp[H0.out,H1.out,H2.out,H3.out]
   | false =>
    have q2:(x.number != y.number)=true:=by show(!(x.number == y.number))=_;rw[show(x.number == y.number)=_ from h2];rfl
    have H2:=lh h2
    clear h2
    go_wp2_with fail
    go_ret
    refine⟨congrArg (fun b=>Ending.returned (Value.bool b)) ?_,HB0.out⟩
    rw[HR.out,an_eq]
    simp[H0.out,H1.out,H2.out]
  | false =>
   have q1:(x.owner != y.owner)=true:=by show(!(x.owner == y.owner))=_;rw[show(x.owner == y.owner)=_ from h1];rfl
   have H1:=lh h1
   clear h1
   go_wp2_with fail
   go_ret
   refine⟨congrArg (fun b=>Ending.returned (Value.bool b)) ?_,HB0.out⟩
   rw[HR.out,an_eq]
   simp[H0.out,H1.out]
 | false =>
  have q0:(x.machine != y.machine)=true:=by show(!(x.machine == y.machine))=_;rw[show(x.machine == y.machine)=_ from h0];rfl
  have H0:=lh h0
  clear h0
  go_wp2_with fail
  go_ret
  refine⟨congrArg (fun b=>Ending.returned (Value.bool b)) ?_,HB0.out⟩
  rw[HR.out,an_eq]
  simp[H0.out]
end
end Go.Proofs.YtmbnlccafcfbeaaGreatDoor
