/- Parts of the proof: RcTx5, RcTx6, RcO3, RcAw, LwB, LwD. -/
import Derived.Test.YtmbnlccafcfbeaaGreatDoorPfA
import Derived.Test.YtmbnlccafcfbeaaGreatDoorPf16
import Derived.Test.YtmbnlccafcfbeaaGreatDoorPf18
set_option linter.unusedVariables false
set_option linter.unusedSimpArgs false
set_option linter.unusedSectionVars false
set_option maxRecDepth 100000
set_option maxHeartbeats 64000000
namespace Go.Proofs.YtmbnlccafcfbeaaGreatDoor
section
open Go.RowKit Go.Sort
attribute [local go_sem] Oper.semAt_some
theorem qi0 {P:Program} {ops:Array Oper} {C:World→Prop} {Q:Act→Prop} {o:Oper} {rest:List Oper} {a:Act} (hw:Region.wanted o (yielded ops a.tmps)=true) (ty:TypeId) (x:Operand) (ho:o.op=.load ty x) (b off:Nat) (hx:a.eval x=.pointer (some ⟨b,off,none⟩)) (A:Array Value) (d:TypeDesc) (hc:∀ w,C w→w.rangeAt b off A.toList) (hu:P.underlying ty=some d) (hd:d.isRow=true) (hi:(P.info? ty).map (·.size)=some A.toList.length) (h:wpQuiet P ops C Q rest (a.put o.dst (.agg A))):wpQuiet P ops C Q (o::rest) a:=by
 unfold wpQuiet;rw[if_pos hw];refine⟨.agg A,fun w hw'=>?_,h⟩;unfold Oper.quietAt execOp;simp only[ho,hx,Instr.loadAt,Instr.sureAddr,Sem.run_bind,Sem.run_pure,Result.andThen_ok,run_loadVar_mid w b off ty A.toList d (hc w hw') hu hd hi];exact⟨rfl,by simp⟩
theorem Bk.rgr {w:World} {g:Nat} {t:TypeId} {M:Array Value} (h:Bk w g t M):∀ w',(∃ p:Regrown,w'=grow (redrawn w p.d) p.os)→w'.rangeAt g 0 M.toList:=fun w' hw'=>(h.below (qc4 hw') h.lt).rng
theorem lsT_le {l:List Rf} (hl:l.length≤1024) (h:∀ x∈l,rfP x):(lsT l).size≤101378:=by
 have:=lsT_size hl h;unfold lsT;simp only[ByteArray.size_append]
 show 1+(jn (l.map rfT)).size+1≤_
 omega
def trT (x:Ms):ByteArray:=dec x.tm++⟨#[47]⟩++dec x.ts
theorem qn9 {x:Ms} (h1:I64 x.tm) (h2:I64 x.ts):(trT x).size≤43:=by
 have:=qd2 x.tm h1.1 h1.2;have:=qd2 x.ts h2.1 h2.2;unfold trT;simp only[ByteArray.size_append]
 show(dec x.tm).size+1+(dec x.ts).size≤43
 omega
theorem qm7 {w:World} {x:Ms} {A1:Option Addr} {c1:Nat} {A2:Option Addr} {c2:Nat} {A3:Option Addr} {c3:Nat} {A4:Option Addr} {c4:Nat} {A5:Option Addr} {c5:Nat} {A6:Option Addr} {c6:Nat} {A7:Option Addr} {c7:Nat} {A8:Option Addr} {c8:Nat} (h1:I64 x.tm) (h2:I64 x.ts) (ht:Tb w):Calls Tryz.prog 91 #[.agg (mC x A1 A2 A3 A4 A5 A6 A7 A8 c1 c2 c3 c4 c5 c6 c7 c8)] w (TxP w (trT x)):=by
 obtain⟨M,hM⟩:∃ M:Array Value,M=(mC x A1 A2 A3 A4 A5 A6 A7 A8 c1 c2 c3 c4 c5 c6 c7 c8):=⟨_,rfl⟩
 rw[← hM];have HM:=lh hM
 obtain⟨W,hW⟩:∃ W,W=w.alloc (.cells M 42):=⟨_,rfl⟩
 obtain⟨g,hg⟩:∃ g,g=w.heap.size:=⟨_,rfl⟩
 have hb0:bw w W:=by rw[hW];exact qa2 _ _
 have hk0:Bk W g 42 M:=by rw[hW,hg];exact Bk.new _ _ _
 have HB0:=lh hb0;have a24:cl W g 24 (iv x.tm):=(hk0.cell 24).trans (by rw[HM.o];rfl);have a25:cl W g 25 (iv x.ts):=(hk0.cell 25).trans (by rw[HM.o];rfl);have ka24:=cell_regrown a24;have ka25:=cell_regrown a25;have HT:=lh (ht.below hb0);have z1:=qd2 x.tm h1.1 h1.2;have z2:=qd2 x.ts h2.1 h2.2;have t1:¬ 9223372036854775807 < (dec x.tm).size+1:=by omega
 have t2:¬ 9223372036854775807 < (dec x.tm).size+1+(dec x.ts).size:=by omega
 have k1:=fun dd os=>Calls.regrown_of (w:=W) (d:=dd) (os:=os) (qh3 x.tm h1.1 h1.2 _ (HT.o.below (below_regrown W dd os)));have k2:=fun dd os=>Calls.regrown_of (w:=W) (d:=dd) (os:=os) (qh3 x.ts h2.1 h2.2 _ (HT.o.below (below_regrown W dd os)));clear hb0 hk0 hM ht h1 h2
 go_enter Tryz.func91,Tryz.ntmps91
 go_upto_region 1 with fail
 rw[← hW,← hg];clear hW hg a24 a25;refine wp_region_quiet_below (by kernel_rfl) (by kernel_rfl) ?_
 repeat (quiet_step (first | exact k1 _ _ | exact k2 _ _))
 refine wpQuiet_nil ?_;intro w3 hw';have HB3:=lh (HB0.o.trans ((qc4 hw').mono HB0.o.size));clear hw' k1 k2 ka24 ka25
 go_wp2_with fail
 go_ret;exact⟨rfl,HB3.o⟩
theorem Txt0 {w:World} {x:Ms} {r:List Value} (h:MsI w x r) (hx:msP x) (ht:Tb w):Calls Tryz.prog 75 #[.agg r.toArray] w (TxP w (⟨#[32]⟩++dec x.number++⟨#[32]⟩++idT x.letter.idm x.letter.ids++⟨#[32]⟩++x.letter.meth++lsT x.letter.args)):=by
 obtain⟨A1,c1,A2,c2,A3,c3,A4,c4,A5,c5,A6,c6,A7,c7,A8,c8,hr,hl1,hl2,hl3,hl4,hl5,hl6,hl7,hl8⟩:=h
 obtain⟨M,hM⟩:∃ M,M=r.toArray:=⟨_,rfl⟩
 rw[← hM];rw[hr] at hM;clear hr hl3 hl4 hl5 hl6 hl7 hl8;have HM:=lh hM
 obtain⟨W,hW⟩:∃ W,W=w.alloc (.cells M 42):=⟨_,rfl⟩
 obtain⟨g,hg⟩:∃ g,g=w.heap.size:=⟨_,rfl⟩
 have hb0:bw w W:=by rw[hW];exact qa2 _ _
 have hk0:Bk W g 42 M:=by rw[hW,hg];exact Bk.new _ _ _
 have HT:=lh (ht.below hb0);have HX:=lh hx;have HB0:=lh hb0;have HK0:=lh hk0;have ML1:Hid (LsI (qa6 rfC) 26 8 W A1 c1 x.letter.args):=lh (LsI.below (show LsI (qa6 rfC) 26 8 w A1 c1 x.letter.args from hl1) (qa1 rfC) (qa0 rfC) hb0);have a1:cl W g 1 (uv x.number):=(hk0.cell 1).trans (by rw[HM.o];rfl);have ka1:=cell_regrown a1;have a12:cl W g 12 (iv x.letter.idm):=(hk0.cell 12).trans (by rw[HM.o];rfl);have ka12:=cell_regrown a12;have a13:cl W g 13 (iv x.letter.ids):=(hk0.cell 13).trans (by rw[HM.o];rfl);have ka13:=cell_regrown a13;have a14:cl W g 14 (.string x.letter.meth):=(hk0.cell 14).trans (by rw[HM.o];rfl);have ka14:=cell_regrown a14;have a15:cl W g 15 (.slice A1 x.letter.args.length c1):=(hk0.cell 15).trans (by rw[HM.o];rfl);have ka15:=cell_regrown a15;have z1:(dec x.number).size≤20:=qb3 HX.o.2.2.2.2.1.1 HX.o.2.2.2.2.1.2;have z3:(idT x.letter.idm x.letter.ids).size≤44:=qi1 HX.o.2.2.2.2.2.2.2.1.1 HX.o.2.2.2.2.2.2.2.1.2.1;have z5:x.letter.meth.size≤4096:=by have:(x.letter.meth.size:Int)≤4096:=HX.o.2.2.2.2.2.2.2.1.2.2.1;omega
 have z6:(lsT x.letter.args).size≤101378:=lsT_le (by have:=HX.o.2.2.2.2.2.2.2.1.2.2.2.1;omega) HX.o.2.2.2.2.2.2.2.1.2.2.2.2;have t1:¬ 9223372036854775807 < 1+(dec x.number).size:=by omega
 have t2:¬ 9223372036854775807 < 1+(dec x.number).size+1:=by omega
 have t3:¬ 9223372036854775807 < 1+(dec x.number).size+1+(idT x.letter.idm x.letter.ids).size:=by omega
 have t4:¬ 9223372036854775807 < 1+(dec x.number).size+1+(idT x.letter.idm x.letter.ids).size+1:=by omega
 have t5:¬ 9223372036854775807 < 1+(dec x.number).size+1+(idT x.letter.idm x.letter.ids).size+1+(x.letter.meth).size:=by omega
 have t6:¬ 9223372036854775807 < 1+(dec x.number).size+1+(idT x.letter.idm x.letter.ids).size+1+(x.letter.meth).size+(lsT x.letter.args).size:=by omega
 have k1:=fun dd os=>Calls.regrown_of (w:=W) (d:=dd) (os:=os) (f:=76) (qn7 (u:=x.number) HX.o.2.2.2.2.1 _ (HT.o.below (below_regrown W dd os)));have k3:=fun dd os=>Calls.regrown_of (w:=W) (d:=dd) (os:=os) (f:=77) (qw0 (a:=x.letter.idm) (b:=x.letter.ids) HX.o.2.2.2.2.2.2.2.1.1 HX.o.2.2.2.2.2.2.2.1.2.1 _ (HT.o.below (below_regrown W dd os)));have k6:=fun dd os=>Calls.regrown_of (w:=W) (d:=dd) (os:=os) (f:=78) (qq2 (LsI.below ML1.o (qa1 rfC) (qa0 rfC) (below_regrown W dd os)) (Nat.le_of_lt_succ (by have:=HX.o.2.2.2.2.2.2.2.1.2.2.2.1;omega)) HX.o.2.2.2.2.2.2.2.1.2.2.2.2 (HT.o.below (below_regrown W dd os)));clear hb0 hk0 hM ht hx hl1 hl2
 go_enter Tryz.func75,Tryz.ntmps75
 go_upto_region 1 with fail
 rw[← hW,← hg];clear hW hg;clear a1 a12 a13 a14 a15;refine wp_region_quiet_below (by kernel_rfl) (by kernel_rfl) ?_
 repeat (first | quiet_step (first | exact k1 _ _ | exact k3 _ _ | exact k6 _ _))
 refine wpQuiet_nil ?_;intro w3 hw';have HB3:=lh (HB0.o.trans ((qc4 hw').mono HB0.o.size));clear hw' k1 k3 k6 ka1 ka12 ka13 ka14 ka15
 go_wp2_with fail
 go_ret;exact⟨rfl,HB3.o⟩
theorem Txt1 {w:World} {x:Ms} {r:List Value} (h:MsI w x r) (hx:msP x) (ht:Tb w):Calls Tryz.prog 82 #[.agg r.toArray] w (TxP w (⟨#[32]⟩++dec x.parcel.number++⟨#[32]⟩++idT x.parcel.idm x.parcel.ids++⟨#[32,99,108,97,115,115,32]⟩++dec x.parcel.cls++⟨#[32]⟩++lsT x.parcel.fields)):=by
 obtain⟨A1,c1,A2,c2,A3,c3,A4,c4,A5,c5,A6,c6,A7,c7,A8,c8,hr,hl1,hl2,hl3,hl4,hl5,hl6,hl7,hl8⟩:=h
 obtain⟨M,hM⟩:∃ M,M=r.toArray:=⟨_,rfl⟩
 rw[← hM];rw[hr] at hM;clear hr hl3 hl4 hl5 hl6 hl7 hl8;have HM:=lh hM
 obtain⟨W,hW⟩:∃ W,W=w.alloc (.cells M 42):=⟨_,rfl⟩
 obtain⟨g,hg⟩:∃ g,g=w.heap.size:=⟨_,rfl⟩
 have hb0:bw w W:=by rw[hW];exact qa2 _ _
 have hk0:Bk W g 42 M:=by rw[hW,hg];exact Bk.new _ _ _
 have HT:=lh (ht.below hb0);have HX:=lh hx;have HB0:=lh hb0;have HK0:=lh hk0;have ML2:Hid (LsI (qa6 rfC) 26 8 W A2 c2 x.parcel.fields):=lh (LsI.below (show LsI (qa6 rfC) 26 8 w A2 c2 x.parcel.fields from hl2) (qa1 rfC) (qa0 rfC) hb0);have a16:cl W g 16 (uv x.parcel.number):=(hk0.cell 16).trans (by rw[HM.o];rfl);have ka16:=cell_regrown a16;have a17:cl W g 17 (iv x.parcel.idm):=(hk0.cell 17).trans (by rw[HM.o];rfl);have ka17:=cell_regrown a17;have a18:cl W g 18 (iv x.parcel.ids):=(hk0.cell 18).trans (by rw[HM.o];rfl);have ka18:=cell_regrown a18;have a20:cl W g 20 (iv x.parcel.cls):=(hk0.cell 20).trans (by rw[HM.o];rfl);have ka20:=cell_regrown a20;have a21:cl W g 21 (.slice A2 x.parcel.fields.length c2):=(hk0.cell 21).trans (by rw[HM.o];rfl);have ka21:=cell_regrown a21;have z1:(dec x.parcel.number).size≤20:=qb3 HX.o.2.2.2.2.2.2.2.2.1.1.1 HX.o.2.2.2.2.2.2.2.2.1.1.2;have z3:(idT x.parcel.idm x.parcel.ids).size≤44:=qi1 HX.o.2.2.2.2.2.2.2.2.1.2.1 HX.o.2.2.2.2.2.2.2.2.1.2.2.1;have z5:(dec x.parcel.cls).size≤21:=qd2 _ HX.o.2.2.2.2.2.2.2.2.1.2.2.2.2.1.1 HX.o.2.2.2.2.2.2.2.2.1.2.2.2.2.1.2;have z7:(lsT x.parcel.fields).size≤101378:=lsT_le (by have:=HX.o.2.2.2.2.2.2.2.2.1.2.2.2.2.2.1.1;omega) HX.o.2.2.2.2.2.2.2.2.1.2.2.2.2.2.1.2;have t1:¬ 9223372036854775807 < 1+(dec x.parcel.number).size:=by omega
 have t2:¬ 9223372036854775807 < 1+(dec x.parcel.number).size+1:=by omega
 have t3:¬ 9223372036854775807 < 1+(dec x.parcel.number).size+1+(idT x.parcel.idm x.parcel.ids).size:=by omega
 have t4:¬ 9223372036854775807 < 1+(dec x.parcel.number).size+1+(idT x.parcel.idm x.parcel.ids).size+7:=by omega
 have t5:¬ 9223372036854775807 < 1+(dec x.parcel.number).size+1+(idT x.parcel.idm x.parcel.ids).size+7+(dec x.parcel.cls).size:=by omega
 have t6:¬ 9223372036854775807 < 1+(dec x.parcel.number).size+1+(idT x.parcel.idm x.parcel.ids).size+7+(dec x.parcel.cls).size+1:=by omega
 have t7:¬ 9223372036854775807 < 1+(dec x.parcel.number).size+1+(idT x.parcel.idm x.parcel.ids).size+7+(dec x.parcel.cls).size+1+(lsT x.parcel.fields).size:=by omega
 have k1:=fun dd os=>Calls.regrown_of (w:=W) (d:=dd) (os:=os) (f:=76) (qn7 (u:=x.parcel.number) HX.o.2.2.2.2.2.2.2.2.1.1 _ (HT.o.below (below_regrown W dd os)));have k3:=fun dd os=>Calls.regrown_of (w:=W) (d:=dd) (os:=os) (f:=77) (qw0 (a:=x.parcel.idm) (b:=x.parcel.ids) HX.o.2.2.2.2.2.2.2.2.1.2.1 HX.o.2.2.2.2.2.2.2.2.1.2.2.1 _ (HT.o.below (below_regrown W dd os)));have k5:=fun dd os=>Calls.regrown_of (w:=W) (d:=dd) (os:=os) (f:=83) (qh3 x.parcel.cls HX.o.2.2.2.2.2.2.2.2.1.2.2.2.2.1.1 HX.o.2.2.2.2.2.2.2.2.1.2.2.2.2.1.2 _ (HT.o.below (below_regrown W dd os)));have k7:=fun dd os=>Calls.regrown_of (w:=W) (d:=dd) (os:=os) (f:=78) (qq2 (LsI.below ML2.o (qa1 rfC) (qa0 rfC) (below_regrown W dd os)) (Nat.le_of_lt_succ (by have:=HX.o.2.2.2.2.2.2.2.2.1.2.2.2.2.2.1.1;omega)) HX.o.2.2.2.2.2.2.2.2.1.2.2.2.2.2.1.2 (HT.o.below (below_regrown W dd os)));clear hb0 hk0 hM ht hx hl1 hl2
 go_enter Tryz.func82,Tryz.ntmps82
 go_upto_region 1 with fail
 rw[← hW,← hg];clear hW hg;clear a16 a17 a18 a20 a21;refine wp_region_quiet_below (by kernel_rfl) (by kernel_rfl) ?_
 repeat (first | quiet_step (first | exact k1 _ _ | exact k3 _ _ | exact k5 _ _ | exact k7 _ _))
 refine wpQuiet_nil ?_;intro w3 hw';have HB3:=lh (HB0.o.trans ((qc4 hw').mono HB0.o.size));clear hw' k1 k3 k5 k7 ka16 ka17 ka18 ka20 ka21
 go_wp2_with fail
 go_ret;exact⟨rfl,HB3.o⟩
theorem Txt2 {w:World} {x:Ms} {r:List Value} (h:MsI w x r) (hx:msP x) (ht:Tb w):Calls Tryz.prog 145 #[.agg r.toArray] w (TxP w (⟨#[32]⟩++dec x.number++⟨#[32,102,111,114,32]⟩++dec x.asker)):=by
 obtain⟨A1,c1,A2,c2,A3,c3,A4,c4,A5,c5,A6,c6,A7,c7,A8,c8,hr,hl1,hl2,hl3,hl4,hl5,hl6,hl7,hl8⟩:=h
 obtain⟨M,hM⟩:∃ M,M=r.toArray:=⟨_,rfl⟩
 rw[← hM];rw[hr] at hM;clear hr hl3 hl4 hl5 hl6 hl7 hl8;have HM:=lh hM
 obtain⟨W,hW⟩:∃ W,W=w.alloc (.cells M 42):=⟨_,rfl⟩
 obtain⟨g,hg⟩:∃ g,g=w.heap.size:=⟨_,rfl⟩
 have hb0:bw w W:=by rw[hW];exact qa2 _ _
 have hk0:Bk W g 42 M:=by rw[hW,hg];exact Bk.new _ _ _
 have HT:=lh (ht.below hb0);have HX:=lh hx;have HB0:=lh hb0;have HK0:=lh hk0;have a1:cl W g 1 (uv x.number):=(hk0.cell 1).trans (by rw[HM.o];rfl);have ka1:=cell_regrown a1;have a2:cl W g 2 (iv x.asker):=(hk0.cell 2).trans (by rw[HM.o];rfl);have ka2:=cell_regrown a2;have z1:(dec x.number).size≤20:=qb3 HX.o.2.2.2.2.1.1 HX.o.2.2.2.2.1.2;have z3:(dec x.asker).size≤21:=qd2 _ HX.o.2.1.1 HX.o.2.1.2;have t1:¬ 9223372036854775807 < 1+(dec x.number).size:=by omega
 have t2:¬ 9223372036854775807 < 1+(dec x.number).size+5:=by omega
 have t3:¬ 9223372036854775807 < 1+(dec x.number).size+5+(dec x.asker).size:=by omega
 have k1:=fun dd os=>Calls.regrown_of (w:=W) (d:=dd) (os:=os) (f:=76) (qn7 (u:=x.number) HX.o.2.2.2.2.1 _ (HT.o.below (below_regrown W dd os)));have k3:=fun dd os=>Calls.regrown_of (w:=W) (d:=dd) (os:=os) (f:=83) (qh3 x.asker HX.o.2.1.1 HX.o.2.1.2 _ (HT.o.below (below_regrown W dd os)));clear hb0 hk0 hM ht hx hl1 hl2
 go_enter Tryz.func145,Tryz.ntmps145
 go_upto_region 1 with fail
 rw[← hW,← hg];clear hW hg;clear a1 a2;refine wp_region_quiet_below (by kernel_rfl) (by kernel_rfl) ?_
 repeat (first | quiet_step (first | exact k1 _ _ | exact k3 _ _))
 refine wpQuiet_nil ?_;intro w3 hw';have HB3:=lh (HB0.o.trans ((qc4 hw').mono HB0.o.size));clear hw' k1 k3 ka1 ka2
 go_wp2_with fail
 go_ret;exact⟨rfl,HB3.o⟩
theorem Txt4 {w:World} {x:Ms} {r:List Value} (h:MsI w x r) (hx:msP x) (ht:Tb w):Calls Tryz.prog 148 #[.agg r.toArray] w (TxP w (⟨#[32]⟩++rfT x.ref)):=by
 obtain⟨A1,c1,A2,c2,A3,c3,A4,c4,A5,c5,A6,c6,A7,c7,A8,c8,hr,hl1,hl2,hl3,hl4,hl5,hl6,hl7,hl8⟩:=h
 obtain⟨M,hM⟩:∃ M,M=r.toArray:=⟨_,rfl⟩
 rw[← hM];rw[hr] at hM;clear hr hl3 hl4 hl5 hl6 hl7 hl8;have HM:=lh hM
 obtain⟨W,hW⟩:∃ W,W=w.alloc (.cells M 42):=⟨_,rfl⟩
 obtain⟨g,hg⟩:∃ g,g=w.heap.size:=⟨_,rfl⟩
 have hb0:bw w W:=by rw[hW];exact qa2 _ _
 have hk0:Bk W g 42 M:=by rw[hW,hg];exact Bk.new _ _ _
 have HT:=lh (ht.below hb0);have HX:=lh hx;have HB0:=lh hb0;have HK0:=lh hk0;have a4:cl W g 4 (iv x.ref.kind):=(hk0.cell 4).trans (by rw[HM.o];rfl);have a5:cl W g 5 (iv x.ref.int):=(hk0.cell 5).trans (by rw[HM.o];rfl);have a6:cl W g 6 (iv x.ref.owner):=(hk0.cell 6).trans (by rw[HM.o];rfl);have a7:cl W g 7 (uv x.ref.number):=(hk0.cell 7).trans (by rw[HM.o];rfl);have a8:cl W g 8 (iv x.ref.idm):=(hk0.cell 8).trans (by rw[HM.o];rfl);have a9:cl W g 9 (iv x.ref.ids):=(hk0.cell 9).trans (by rw[HM.o];rfl);have a10:cl W g 10 (iv x.ref.cls):=(hk0.cell 10).trans (by rw[HM.o];rfl);have a11:cl W g 11 (.bool x.ref.weak):=(hk0.cell 11).trans (by rw[HM.o];rfl);have z1:(rfT x.ref).size≤97:=qi7 HX.o.2.2.2.2.2.2.1;have t1:¬ 9223372036854775807 < 1+(rfT x.ref).size:=by omega
 have k1:Calls Tryz.prog 105 _ W _:=qn6 (x:=x.ref) HX.o.2.2.2.2.2.2.1 _ HT.o;clear hb0 hk0 hM ht hx hl1 hl2
 go_enter Tryz.func148,Tryz.ntmps148
 go_upto_region 1 with fail
 rw[← hW,← hg];clear hW hg
 go_wp2_with fail
 refine k1.mono ?_;rintro e w2 ⟨rfl,hb2⟩;have HB2:=lh (HB0.o.trans (hb2.mono HB0.o.size));clear hb2
 go_wp2_with fail
 go_ret;exact⟨rfl,HB2.o⟩
theorem Txt5 {w:World} {x:Ms} {r:List Value} (h:MsI w x r) (hx:msP x) (ht:Tb w):Calls Tryz.prog 86 #[.agg r.toArray] w (TxP w (⟨#[32]⟩++dec x.number)):=by
 obtain⟨A1,c1,A2,c2,A3,c3,A4,c4,A5,c5,A6,c6,A7,c7,A8,c8,hr,hl1,hl2,hl3,hl4,hl5,hl6,hl7,hl8⟩:=h
 obtain⟨M,hM⟩:∃ M,M=r.toArray:=⟨_,rfl⟩
 rw[← hM];rw[hr] at hM;clear hr hl3 hl4 hl5 hl6 hl7 hl8;have HM:=lh hM
 obtain⟨W,hW⟩:∃ W,W=w.alloc (.cells M 42):=⟨_,rfl⟩
 obtain⟨g,hg⟩:∃ g,g=w.heap.size:=⟨_,rfl⟩
 have hb0:bw w W:=by rw[hW];exact qa2 _ _
 have hk0:Bk W g 42 M:=by rw[hW,hg];exact Bk.new _ _ _
 have HT:=lh (ht.below hb0);have HX:=lh hx;have HB0:=lh hb0;have HK0:=lh hk0;have a1:cl W g 1 (uv x.number):=(hk0.cell 1).trans (by rw[HM.o];rfl);have z1:(dec x.number).size≤20:=qb3 HX.o.2.2.2.2.1.1 HX.o.2.2.2.2.1.2;have t1:¬ 9223372036854775807 < 1+(dec x.number).size:=by omega
 have k1:Calls Tryz.prog 76 _ W _:=qn7 (u:=x.number) HX.o.2.2.2.2.1 _ HT.o;clear hb0 hk0 hM ht hx hl1 hl2
 go_enter Tryz.func86,Tryz.ntmps86
 go_upto_region 1 with fail
 rw[← hW,← hg];clear hW hg
 go_wp2_with fail
 refine k1.mono ?_;rintro e w2 ⟨rfl,hb2⟩;have HB2:=lh (HB0.o.trans (hb2.mono HB0.o.size));clear hb2
 go_wp2_with fail
 go_ret;exact⟨rfl,HB2.o⟩
theorem Txt8 {w:World} {x:Ms} {r:List Value} (h:MsI w x r) (hx:msP x) (ht:Tb w):Calls Tryz.prog 90 #[.agg r.toArray] w (TxP w (⟨#[32]⟩++trT x++⟨#[32]⟩++dec x.number++⟨#[32,111,102,32]⟩++dec x.asker)):=by
 obtain⟨A1,c1,A2,c2,A3,c3,A4,c4,A5,c5,A6,c6,A7,c7,A8,c8,hr,hl1,hl2,hl3,hl4,hl5,hl6,hl7,hl8⟩:=h
 obtain⟨M,hM⟩:∃ M,M=r.toArray:=⟨_,rfl⟩
 rw[← hM];rw[hr] at hM;clear hr hl3 hl4 hl5 hl6 hl7 hl8;have HM:=lh hM
 obtain⟨W,hW⟩:∃ W,W=w.alloc (.cells M 42):=⟨_,rfl⟩
 obtain⟨g,hg⟩:∃ g,g=w.heap.size:=⟨_,rfl⟩
 have hb0:bw w W:=by rw[hW];exact qa2 _ _
 have hk0:Bk W g 42 M:=by rw[hW,hg];exact Bk.new _ _ _
 have HT:=lh (ht.below hb0);have HX:=lh hx;have HB0:=lh hb0;have HK0:=lh hk0;have a1:cl W g 1 (uv x.number):=(hk0.cell 1).trans (by rw[HM.o];rfl);have ka1:=cell_regrown a1;have a2:cl W g 2 (iv x.asker):=(hk0.cell 2).trans (by rw[HM.o];rfl);have ka2:=cell_regrown a2;have HSZ:Hid (M.toList.length=39):=lh (by rw[Array.length_toList,HM.o];rfl);have z1:(trT x).size≤43:=qn9 HX.o.2.2.1 HX.o.2.2.2.1;have z3:(dec x.number).size≤20:=qb3 HX.o.2.2.2.2.1.1 HX.o.2.2.2.2.1.2;have z5:(dec x.asker).size≤21:=qd2 _ HX.o.2.1.1 HX.o.2.1.2;have t1:¬ 9223372036854775807 < 1+(trT x).size:=by omega
 have t2:¬ 9223372036854775807 < 1+(trT x).size+1:=by omega
 have t3:¬ 9223372036854775807 < 1+(trT x).size+1+(dec x.number).size:=by omega
 have t4:¬ 9223372036854775807 < 1+(trT x).size+1+(dec x.number).size+4:=by omega
 have t5:¬ 9223372036854775807 < 1+(trT x).size+1+(dec x.number).size+4+(dec x.asker).size:=by omega
 have k1:=fun dd os=>Calls.regrown_of (w:=W) (d:=dd) (os:=os) (f:=91) ((show Calls Tryz.prog 91 #[.agg M] (grow (redrawn W dd) os) (TxP (grow (redrawn W dd) os) (trT x)) by rw[HM.o];exact qm7 HX.o.2.2.1 HX.o.2.2.2.1 (HT.o.below (below_regrown W dd os))));have k3:=fun dd os=>Calls.regrown_of (w:=W) (d:=dd) (os:=os) (f:=76) (qn7 (u:=x.number) HX.o.2.2.2.2.1 _ (HT.o.below (below_regrown W dd os)));have k5:=fun dd os=>Calls.regrown_of (w:=W) (d:=dd) (os:=os) (f:=83) (qh3 x.asker HX.o.2.1.1 HX.o.2.1.2 _ (HT.o.below (below_regrown W dd os)));clear hb0 hk0 hM ht hx hl1 hl2
 go_enter Tryz.func90,Tryz.ntmps90
 go_upto_region 1 with fail
 rw[← hW,← hg];clear hW hg;clear a1 a2;refine wp_region_quiet_below (by kernel_rfl) (by kernel_rfl) ?_
 repeat (first | (refine qi0 rfl _ _ rfl g 0 rfl M _ HK0.o.rgr rfl rfl (by rw[HSZ.o];rfl) ?_) | quiet_step (first | exact k1 _ _ | exact k3 _ _ | exact k5 _ _))
 refine wpQuiet_nil ?_;intro w3 hw';have HB3:=lh (HB0.o.trans ((qc4 hw').mono HB0.o.size));clear hw' k1 k3 k5 ka1 ka2
 go_wp2_with fail
 go_ret;exact⟨rfl,HB3.o⟩
theorem Txt9 {w:World} {x:Ms} {r:List Value} (h:MsI w x r) (hx:msP x) (ht:Tb w):Calls Tryz.prog 95 #[.agg r.toArray] w (TxP w (⟨#[32]⟩++trT x++⟨#[32,109,97,99,104,105,110,101,32]⟩++dec x.answer.machine)):=by
 obtain⟨A1,c1,A2,c2,A3,c3,A4,c4,A5,c5,A6,c6,A7,c7,A8,c8,hr,hl1,hl2,hl3,hl4,hl5,hl6,hl7,hl8⟩:=h
 obtain⟨M,hM⟩:∃ M,M=r.toArray:=⟨_,rfl⟩
 rw[← hM];rw[hr] at hM;clear hr hl3 hl4 hl5 hl6 hl7 hl8;have HM:=lh hM
 obtain⟨W,hW⟩:∃ W,W=w.alloc (.cells M 42):=⟨_,rfl⟩
 obtain⟨g,hg⟩:∃ g,g=w.heap.size:=⟨_,rfl⟩
 have hb0:bw w W:=by rw[hW];exact qa2 _ _
 have hk0:Bk W g 42 M:=by rw[hW,hg];exact Bk.new _ _ _
 have HT:=lh (ht.below hb0);have HX:=lh hx;have HB0:=lh hb0;have HK0:=lh hk0;have a26:cl W g 26 (iv x.answer.machine):=(hk0.cell 26).trans (by rw[HM.o];rfl);have ka26:=cell_regrown a26;have HSZ:Hid (M.toList.length=39):=lh (by rw[Array.length_toList,HM.o];rfl);have z1:(trT x).size≤43:=qn9 HX.o.2.2.1 HX.o.2.2.2.1;have z3:(dec x.answer.machine).size≤21:=qd2 _ HX.o.2.2.2.2.2.2.2.2.2.1.1.1 HX.o.2.2.2.2.2.2.2.2.2.1.1.2;have t1:¬ 9223372036854775807 < 1+(trT x).size:=by omega
 have t2:¬ 9223372036854775807 < 1+(trT x).size+9:=by omega
 have t3:¬ 9223372036854775807 < 1+(trT x).size+9+(dec x.answer.machine).size:=by omega
 have k1:=fun dd os=>Calls.regrown_of (w:=W) (d:=dd) (os:=os) (f:=91) ((show Calls Tryz.prog 91 #[.agg M] (grow (redrawn W dd) os) (TxP (grow (redrawn W dd) os) (trT x)) by rw[HM.o];exact qm7 HX.o.2.2.1 HX.o.2.2.2.1 (HT.o.below (below_regrown W dd os))));have k3:=fun dd os=>Calls.regrown_of (w:=W) (d:=dd) (os:=os) (f:=83) (qh3 x.answer.machine HX.o.2.2.2.2.2.2.2.2.2.1.1.1 HX.o.2.2.2.2.2.2.2.2.2.1.1.2 _ (HT.o.below (below_regrown W dd os)));clear hb0 hk0 hM ht hx hl1 hl2
 go_enter Tryz.func95,Tryz.ntmps95
 go_upto_region 1 with fail
 rw[← hW,← hg];clear hW hg;clear a26;refine wp_region_quiet_below (by kernel_rfl) (by kernel_rfl) ?_
 repeat (first | (refine qi0 rfl _ _ rfl g 0 rfl M _ HK0.o.rgr rfl rfl (by rw[HSZ.o];rfl) ?_) | quiet_step (first | exact k1 _ _ | exact k3 _ _))
 refine wpQuiet_nil ?_;intro w3 hw';have HB3:=lh (HB0.o.trans ((qc4 hw').mono HB0.o.size));clear hw' k1 k3 ka26
 go_wp2_with fail
 go_ret;exact⟨rfl,HB3.o⟩
theorem Txt10 {w:World} {x:Ms} {r:List Value} (h:MsI w x r) (hx:msP x) (ht:Tb w):Calls Tryz.prog 99 #[.agg r.toArray] w (TxP w (⟨#[32]⟩++trT x++⟨#[32,109,97,99,104,105,110,101,32]⟩++dec x.claim.machine)):=by
 obtain⟨A1,c1,A2,c2,A3,c3,A4,c4,A5,c5,A6,c6,A7,c7,A8,c8,hr,hl1,hl2,hl3,hl4,hl5,hl6,hl7,hl8⟩:=h
 obtain⟨M,hM⟩:∃ M,M=r.toArray:=⟨_,rfl⟩
 rw[← hM];rw[hr] at hM;clear hr hl3 hl4 hl5 hl6 hl7 hl8;have HM:=lh hM
 obtain⟨W,hW⟩:∃ W,W=w.alloc (.cells M 42):=⟨_,rfl⟩
 obtain⟨g,hg⟩:∃ g,g=w.heap.size:=⟨_,rfl⟩
 have hb0:bw w W:=by rw[hW];exact qa2 _ _
 have hk0:Bk W g 42 M:=by rw[hW,hg];exact Bk.new _ _ _
 have HT:=lh (ht.below hb0);have HX:=lh hx;have HB0:=lh hb0;have HK0:=lh hk0;have a34:cl W g 34 (iv x.claim.machine):=(hk0.cell 34).trans (by rw[HM.o];rfl);have ka34:=cell_regrown a34;have HSZ:Hid (M.toList.length=39):=lh (by rw[Array.length_toList,HM.o];rfl);have z1:(trT x).size≤43:=qn9 HX.o.2.2.1 HX.o.2.2.2.1;have z3:(dec x.claim.machine).size≤21:=qd2 _ HX.o.2.2.2.2.2.2.2.2.2.2.1.1 HX.o.2.2.2.2.2.2.2.2.2.2.1.2;have t1:¬ 9223372036854775807 < 1+(trT x).size:=by omega
 have t2:¬ 9223372036854775807 < 1+(trT x).size+9:=by omega
 have t3:¬ 9223372036854775807 < 1+(trT x).size+9+(dec x.claim.machine).size:=by omega
 have k1:=fun dd os=>Calls.regrown_of (w:=W) (d:=dd) (os:=os) (f:=91) ((show Calls Tryz.prog 91 #[.agg M] (grow (redrawn W dd) os) (TxP (grow (redrawn W dd) os) (trT x)) by rw[HM.o];exact qm7 HX.o.2.2.1 HX.o.2.2.2.1 (HT.o.below (below_regrown W dd os))));have k3:=fun dd os=>Calls.regrown_of (w:=W) (d:=dd) (os:=os) (f:=83) (qh3 x.claim.machine HX.o.2.2.2.2.2.2.2.2.2.2.1.1 HX.o.2.2.2.2.2.2.2.2.2.2.1.2 _ (HT.o.below (below_regrown W dd os)));clear hb0 hk0 hM ht hx hl1 hl2
 go_enter Tryz.func99,Tryz.ntmps99
 go_upto_region 1 with fail
 rw[← hW,← hg];clear hW hg;clear a34;refine wp_region_quiet_below (by kernel_rfl) (by kernel_rfl) ?_
 repeat (first | (refine qi0 rfl _ _ rfl g 0 rfl M _ HK0.o.rgr rfl rfl (by rw[HSZ.o];rfl) ?_) | quiet_step (first | exact k1 _ _ | exact k3 _ _))
 refine wpQuiet_nil ?_;intro w3 hw';have HB3:=lh (HB0.o.trans ((qc4 hw').mono HB0.o.size));clear hw' k1 k3 ka34
 go_wp2_with fail
 go_ret;exact⟨rfl,HB3.o⟩
theorem Txt11 {w:World} {x:Ms} {r:List Value} (h:MsI w x r) (hx:msP x) (ht:Tb w):Calls Tryz.prog 150 #[.agg r.toArray] w (TxP w (⟨#[32]⟩++trT x)):=by
 obtain⟨A1,c1,A2,c2,A3,c3,A4,c4,A5,c5,A6,c6,A7,c7,A8,c8,hr,hl1,hl2,hl3,hl4,hl5,hl6,hl7,hl8⟩:=h
 obtain⟨M,hM⟩:∃ M,M=r.toArray:=⟨_,rfl⟩
 rw[← hM];rw[hr] at hM;clear hr hl3 hl4 hl5 hl6 hl7 hl8;have HM:=lh hM
 obtain⟨W,hW⟩:∃ W,W=w.alloc (.cells M 42):=⟨_,rfl⟩
 obtain⟨g,hg⟩:∃ g,g=w.heap.size:=⟨_,rfl⟩
 have hb0:bw w W:=by rw[hW];exact qa2 _ _
 have hk0:Bk W g 42 M:=by rw[hW,hg];exact Bk.new _ _ _
 have HT:=lh (ht.below hb0);have HX:=lh hx;have HB0:=lh hb0;have HK0:=lh hk0;have HSZ:Hid (M.toList.length=39):=lh (by rw[Array.length_toList,HM.o];rfl);have z1:(trT x).size≤43:=qn9 HX.o.2.2.1 HX.o.2.2.2.1;have t1:¬ 9223372036854775807 < 1+(trT x).size:=by omega
 have k1:Calls Tryz.prog 91 _ W _:=(show Calls Tryz.prog 91 #[.agg M] W (TxP W (trT x)) by rw[HM.o];exact qm7 HX.o.2.2.1 HX.o.2.2.2.1 HT.o)
 clear hb0 hk0 hM ht hx hl1 hl2
 go_enter Tryz.func150,Tryz.ntmps150
 go_upto_region 1 with fail
 rw[← hW,← hg];clear hW hg;refine wp_region_list ?_;refine wpList_load_mid rfl _ _ rfl g 0 rfl M.toList _ HK0.o.rng rfl rfl (by rw[HSZ.o];rfl) ?_;simp only[Array.toArray_toList]
 go_wp2_with fail
 refine k1.mono ?_;rintro e w2 ⟨rfl,hb2⟩;have HB2:=lh (HB0.o.trans (hb2.mono HB0.o.size));clear hb2
 go_wp2_with fail
 go_ret;exact⟨rfl,HB2.o⟩
theorem Txt17 {w:World} {x:Ms} {r:List Value} (h:MsI w x r) (hx:msP x) (ht:Tb w):Calls Tryz.prog 104 #[.agg r.toArray] w (TxP w (⟨#[32]⟩++x.name++⟨#[32]⟩++rfT x.ref)):=by
 obtain⟨A1,c1,A2,c2,A3,c3,A4,c4,A5,c5,A6,c6,A7,c7,A8,c8,hr,hl1,hl2,hl3,hl4,hl5,hl6,hl7,hl8⟩:=h
 obtain⟨M,hM⟩:∃ M,M=r.toArray:=⟨_,rfl⟩
 rw[← hM];rw[hr] at hM;clear hr hl3 hl4 hl5 hl6 hl7 hl8;have HM:=lh hM
 obtain⟨W,hW⟩:∃ W,W=w.alloc (.cells M 42):=⟨_,rfl⟩
 obtain⟨g,hg⟩:∃ g,g=w.heap.size:=⟨_,rfl⟩
 have hb0:bw w W:=by rw[hW];exact qa2 _ _
 have hk0:Bk W g 42 M:=by rw[hW,hg];exact Bk.new _ _ _
 have HT:=lh (ht.below hb0);have HX:=lh hx;have HB0:=lh hb0;have HK0:=lh hk0;have a3:cl W g 3 (.string x.name):=(hk0.cell 3).trans (by rw[HM.o];rfl);have ka3:=cell_regrown a3;have a4:cl W g 4 (iv x.ref.kind):=(hk0.cell 4).trans (by rw[HM.o];rfl);have ka4:=cell_regrown a4;have a5:cl W g 5 (iv x.ref.int):=(hk0.cell 5).trans (by rw[HM.o];rfl);have ka5:=cell_regrown a5;have a6:cl W g 6 (iv x.ref.owner):=(hk0.cell 6).trans (by rw[HM.o];rfl);have ka6:=cell_regrown a6;have a7:cl W g 7 (uv x.ref.number):=(hk0.cell 7).trans (by rw[HM.o];rfl);have ka7:=cell_regrown a7;have a8:cl W g 8 (iv x.ref.idm):=(hk0.cell 8).trans (by rw[HM.o];rfl);have ka8:=cell_regrown a8;have a9:cl W g 9 (iv x.ref.ids):=(hk0.cell 9).trans (by rw[HM.o];rfl);have ka9:=cell_regrown a9;have a10:cl W g 10 (iv x.ref.cls):=(hk0.cell 10).trans (by rw[HM.o];rfl);have ka10:=cell_regrown a10;have a11:cl W g 11 (.bool x.ref.weak):=(hk0.cell 11).trans (by rw[HM.o];rfl);have ka11:=cell_regrown a11;have z1:x.name.size≤4096:=by have:(x.name.size:Int)≤4096:=HX.o.2.2.2.2.2.1;omega
 have z3:(rfT x.ref).size≤97:=qi7 HX.o.2.2.2.2.2.2.1;have t1:¬ 9223372036854775807 < 1+(x.name).size:=by omega
 have t2:¬ 9223372036854775807 < 1+(x.name).size+1:=by omega
 have t3:¬ 9223372036854775807 < 1+(x.name).size+1+(rfT x.ref).size:=by omega
 have k3:=fun dd os=>Calls.regrown_of (w:=W) (d:=dd) (os:=os) (f:=105) (qn6 (x:=x.ref) HX.o.2.2.2.2.2.2.1 _ (HT.o.below (below_regrown W dd os)));clear hb0 hk0 hM ht hx hl1 hl2
 go_enter Tryz.func104,Tryz.ntmps104
 go_upto_region 1 with fail
 rw[← hW,← hg];clear hW hg;clear a3 a4 a5 a6 a7 a8 a9 a10 a11;refine wp_region_quiet_below (by kernel_rfl) (by kernel_rfl) ?_
 repeat (first | quiet_step (first | exact k3 _ _))
 refine wpQuiet_nil ?_;intro w3 hw';have HB3:=lh (HB0.o.trans ((qc4 hw').mono HB0.o.size));clear hw' k3 ka3 ka4 ka5 ka6 ka7 ka8 ka9 ka10 ka11
 go_wp2_with fail
 go_ret;exact⟨rfl,HB3.o⟩
theorem Txt15 {w:World} {x:Ms} {r:List Value} (h:MsI w x r) (hx:msP x) (ht:Tb w):Calls Tryz.prog 153 #[.agg r.toArray] w (TxP w ⟨#[]⟩):=by
 obtain⟨M,hM⟩:∃ M,M=r.toArray:=⟨_,rfl⟩
 rw[← hM];clear hM h hx ht
 go_enter Tryz.func153,Tryz.ntmps153
 go_wp2_with fail
 go_ret;exact⟨rfl,qa2 _ _⟩
end
section
open Go.RowKit Go.Sort
attribute [local go_sem] Oper.semAt_some
def txK (k:Nat) (x:Ms):ByteArray :=
 match k with
 | 0=>⟨#[32]⟩++dec x.number++⟨#[32]⟩++idT x.letter.idm x.letter.ids++⟨#[32]⟩++x.letter.meth++lsT x.letter.args
 | 1=>⟨#[32]⟩++dec x.parcel.number++⟨#[32]⟩++idT x.parcel.idm x.parcel.ids++⟨#[32,99,108,97,115,115,32]⟩++dec x.parcel.cls++⟨#[32]⟩++lsT x.parcel.fields
 | 2=>⟨#[32]⟩++dec x.number++⟨#[32,102,111,114,32]⟩++dec x.asker
 | 3=>⟨#[32]⟩++dec x.number++⟨#[32,102,111,114,32]⟩++dec x.asker
 | 4=>⟨#[32]⟩++rfT x.ref
 | 5=>⟨#[32]⟩++dec x.number
 | 6=>⟨#[32]⟩++dec x.number++⟨#[32,102,111,114,32]⟩++dec x.asker
 | 7=>⟨#[32]⟩++rfT x.ref
 | 8=>⟨#[32]⟩++trT x++⟨#[32]⟩++dec x.number++⟨#[32,111,102,32]⟩++dec x.asker
 | 9=>⟨#[32]⟩++trT x++⟨#[32,109,97,99,104,105,110,101,32]⟩++dec x.answer.machine
 | 10=>⟨#[32]⟩++trT x++⟨#[32,109,97,99,104,105,110,101,32]⟩++dec x.claim.machine
 | 11=>⟨#[32]⟩++trT x
 | 12=>⟨#[32]⟩++trT x
 | 13=>⟨#[32]⟩++trT x
 | 14=>⟨#[32]⟩++trT x
 | 15=>⟨#[]⟩
 | 16=>⟨#[]⟩
 | 17=>⟨#[32]⟩++x.name++⟨#[32]⟩++rfT x.ref
 | _=>⟨#[]⟩
theorem Tx_any {w:World} {x:Ms} {r:List Value} (h:MsI w x r) (hx:msP x) (ht:Tb w) {k:Nat} (hk:k < 18):Calls Tryz.prog (kC k) #[.agg r.toArray] w (TxP w (txK k x)):=by
 rcases (show k=0 ∨ k=1 ∨ k=2 ∨ k=3 ∨ k=4 ∨ k=5 ∨ k=6 ∨ k=7 ∨ k=8 ∨ k=9 ∨ k=10 ∨ k=11 ∨ k=12 ∨ k=13 ∨ k=14 ∨ k=15 ∨ k=16 ∨ k=17 by omega) with rfl | rfl | rfl | rfl | rfl | rfl | rfl | rfl | rfl | rfl | rfl | rfl | rfl | rfl | rfl | rfl | rfl | rfl
 ·exact Txt0 h hx ht
 ·exact Txt1 h hx ht
 ·exact Txt2 h hx ht
 ·exact Txt2 h hx ht
 ·exact Txt4 h hx ht
 ·exact Txt5 h hx ht
 ·exact Txt2 h hx ht
 ·exact Txt4 h hx ht
 ·exact Txt8 h hx ht
 ·exact Txt9 h hx ht
 ·exact Txt10 h hx ht
 ·exact Txt11 h hx ht
 ·exact Txt11 h hx ht
 ·exact Txt11 h hx ht
 ·exact Txt11 h hx ht
 ·exact Txt15 h hx ht
 ·exact Txt15 h hx ht
 ·exact Txt17 h hx ht
theorem callC {k:Nat} (hk:k < 18) (args:Array Value) (w:World):Sem.run Tryz.prog (callFunc (kC k) args) w=.ok (.enter (kC k) args) w:=by
 rcases (show k=0 ∨ k=1 ∨ k=2 ∨ k=3 ∨ k=4 ∨ k=5 ∨ k=6 ∨ k=7 ∨ k=8 ∨ k=9 ∨ k=10 ∨ k=11 ∨ k=12 ∨ k=13 ∨ k=14 ∨ k=15 ∨ k=16 ∨ k=17 by omega) with rfl | rfl | rfl | rfl | rfl | rfl | rfl | rfl | rfl | rfl | rfl | rfl | rfl | rfl | rfl | rfl | rfl | rfl <;> rfl
theorem txK_size {x:Ms} (h:msP x) (k:Nat):(txK k x).size≤120000:=by
 obtain⟨h1,h2,h3,h4,h5,h6,h7,h8,h9,h10,h11⟩:=h;have a1:=qb3 h5.1 h5.2;have a2:=qi1 h8.1 h8.2.1;have a3:x.letter.meth.size≤4096:=by have:(x.letter.meth.size:Int)≤4096:=h8.2.2.1;omega
 have a4:=lsT_le (by have:=h8.2.2.2.1;omega) h8.2.2.2.2;have a5:=qb3 h9.1.1 h9.1.2;have a6:=qi1 h9.2.1 h9.2.2.1;have a7:=qd2 x.parcel.cls h9.2.2.2.2.1.1 h9.2.2.2.2.1.2;have a8:=lsT_le (by have:=h9.2.2.2.2.2.1.1;omega) h9.2.2.2.2.2.1.2;have a9:=qd2 x.asker h2.1 h2.2;have b1:=qi7 h7;have b2:=qn9 (x:=x) h3 h4;have b3:=qd2 x.answer.machine h10.1.1 h10.1.2;have b4:=qd2 x.claim.machine h11.1.1 h11.1.2;have b5:x.name.size≤4096:=by have:(x.name.size:Int)≤4096:=h6;omega
 have c:∀ a:Array UInt8,(⟨a⟩:ByteArray).size=a.size:=fun a=>rfl;unfold txK;have d1:(⟨#[32]⟩:ByteArray).size=1:=rfl;have d2:(⟨#[32,99,108,97,115,115,32]⟩:ByteArray).size=7:=rfl;have d3:(⟨#[32,102,111,114,32]⟩:ByteArray).size=5:=rfl;have d4:(⟨#[32,111,102,32]⟩:ByteArray).size=4:=rfl;have d5:(⟨#[32,109,97,99,104,105,110,101,32]⟩:ByteArray).size=9:=rfl;have d6:(⟨#[]⟩:ByteArray).size=0:=rfl
 split <;> simp only[ByteArray.size_append,d1,d2,d3,d4,d5,d6] <;> omega
theorem kS_size {k:Nat} (hk:k < 18):(kS k).size≤8:=by
 rcases (show k=0 ∨ k=1 ∨ k=2 ∨ k=3 ∨ k=4 ∨ k=5 ∨ k=6 ∨ k=7 ∨ k=8 ∨ k=9 ∨ k=10 ∨ k=11 ∨ k=12 ∨ k=13 ∨ k=14 ∨ k=15 ∨ k=16 ∨ k=17 by omega) with rfl | rfl | rfl | rfl | rfl | rfl | rfl | rfl | rfl | rfl | rfl | rfl | rfl | rfl | rfl | rfl | rfl | rfl <;> decide
def fmtV (x:Ms):ByteArray:=if msV x=true then kS x.kind.toNat++txK x.kind.toNat x else ⟨#[105,110,118,97,108,105,100]⟩
theorem Format_any {w:World} {x:Ms} {r:List Value} (h:MsI w x r) (hx:msP x) (hl:(qe6 x).length≤2147483648) (ht:Tb w):Calls Tryz.prog 18 #[.agg r.toArray] w (TxP w (fmtV x)):=by
 have hsz:r.toArray.toList.length=39:=h.len;have hkd:=h.kind
 obtain⟨M,hM⟩:∃ M,M=r.toArray:=⟨_,rfl⟩
 rw[← hM] at hsz hkd ⊢;have HSZ:=lh hsz;have HKD:=lh hkd;have HM:=lh hM
 obtain⟨W,hW⟩:∃ W,W=w.alloc (.cells M 42):=⟨_,rfl⟩
 obtain⟨g,hg⟩:∃ g,g=w.heap.size:=⟨_,rfl⟩
 have hb0:bw w W:=by rw[hW];exact qa2 _ _
 have hk0:Bk W g 42 M:=by rw[hW,hg];exact Bk.new _ _ _
 have HB0:=lh hb0;have HK0:=lh hk0;have HT:=lh (ht.below hb0);have cV:Calls Tryz.prog 12 #[.agg M] W (qe7 W (msV x)):=by rw[HM.o];exact qv6 (h.below hb0) hx hl
 have H:=lh (And.intro h (And.intro hx hl))
 obtain⟨T,hT⟩:∃ T,T=fmtV x:=⟨_,rfl⟩
 rw[← hT];unfold fmtV at hT;clear hb0 hk0 hM h hx hl hsz hkd ht
 go_enter Tryz.func18,Tryz.ntmps18
 go_upto_region 1 with fail
 rw[← hW,← hg];clear hW hg;refine wp_region_list ?_;refine wpList_load_mid rfl _ _ rfl g 0 rfl M.toList _ HK0.o.rng rfl rfl (by rw[HSZ.o];rfl) ?_;simp only[Array.toArray_toList]
 cases hv:msV x with
 | false =>
  rw[hv] at cV hT;have HTE:Hid (T=⟨#[105,110,118,97,108,105,100]⟩):=lh hT;clear hT hv
  go_wp2_with fail
  refine cV.mono ?_;rintro e w2 ⟨rfl,hb2⟩;have HB2:=lh (HB0.o.trans (hb2.mono HB0.o.size));clear cV hb2
  go_wp2_with fail
  go_ret;rw[HTE.o];exact⟨rfl,HB2.o⟩
 | true =>
  rw[hv,if_pos rfl] at hT;rw[hv] at cV
  obtain⟨k,hk⟩:∃ k:Nat,k=x.kind.toNat:=⟨_,rfl⟩
  have hkk:x.kind=k∧k < 18:=by
   unfold msV at hv;have:=hv;simp only[Bool.and_eq_true,decide_eq_true_eq] at this
   omega
  rw[← hk] at hT;have HTE:=lh hT;have HK:=lh hkk;clear hT hv hk hkk
  go_wp2_with fail
  refine cV.mono ?_;rintro e w2 ⟨rfl,hb2⟩;have HB2:=lh (HB0.o.trans (hb2.mono HB0.o.size));have HK2:=lh (HK0.o.below hb2 HK0.o.lt);have HT2:=lh (HT.o.below hb2);have a0:cl w2 g 0 (iv (k:Int)):=(HK2.o.cell 0).trans (by rw[← HK.o.1];exact HKD.o);have cF:=find_in w2 HK.o.2;unfold kV at cF;clear cV hb2
  go_upto_region 4 with (go_at_call 26;refine cF.mono ?_;rintro e w3 ⟨rfl,hb3⟩)
  have HB3:=lh (HB2.o.trans (hb3.mono HB2.o.size));have HK3:=lh (HK2.o.below hb3 HK2.o.lt);have HT3:=lh (HT2.o.below hb3)
  obtain⟨w4,hw4⟩:∃ w4,w4=w3.alloc (.cells #[.string (kS k),.func (.func (kA k)) #[] #[],.func (.func (kB k)) #[] #[],.func (.func (kC k)) #[] #[]] 68):=⟨_,rfl⟩
  obtain⟨b4,hb4⟩:∃ b4,b4=w3.heap.size:=⟨_,rfl⟩
  have hB4:bw w3 w4:=by rw[hw4];exact qa2 _ _
  have hq4:Bk w4 b4 68 #[.string (kS k),.func (.func (kA k)) #[] #[],.func (.func (kB k)) #[] #[],.func (.func (kC k)) #[] #[]]:=by rw[hw4,hb4];exact Bk.new _ _ _
  have HB4:=lh (HB3.o.trans (hB4.mono HB3.o.size));have HK4:=lh (HK3.o.below hB4 HK3.o.lt);have HT4:=lh (HT3.o.below hB4);have f0:=cell_regrown (hq4.cell 0);have f3:=cell_regrown (hq4.cell 3);have hcc:=fun args w=>callC HK.o.2 args w;have kc:∀ dd os,Calls Tryz.prog (kC k) #[.agg M] (grow (redrawn w4 dd) os) fun e w'=>e=.returned (.string (txK k x))∧∃ p:Regrown,w'=grow (redrawn w4 p.d) p.os:=fun dd os=>Calls.regrown_of (w:=w4) (d:=dd) (os:=os) (by rw[HM.o];exact Tx_any (H.o.1.below (HB4.o.trans ((below_regrown w4 dd os).mono HB4.o.size))) H.o.2.1 (HT4.o.below (below_regrown w4 dd os)) HK.o.2);have z1:=txK_size H.o.2.1 k;have z2:=kS_size HK.o.2;have t1:¬ 9223372036854775807 < (kS k).size+(txK k x).size:=by omega
  rw[← hw4,← hb4];clear hw4 hb4 hB4 hq4 hb3 cF a0;refine wp_region_quiet_below (by kernel_rfl) (by kernel_rfl) ?_
  repeat (first | (refine qi0 rfl _ _ rfl g 0 rfl M _ HK4.o.rgr rfl rfl (by rw[HSZ.o];rfl) ?_) | quiet_step (exact kc _ _))
  refine wpQuiet_nil ?_;intro w5 hw';have HB5:=lh (HB4.o.trans ((qc4 hw').mono HB4.o.size));clear hw' kc f0 f3
  go_wp2_with fail
  go_ret;rw[HTE.o];exact⟨rfl,HB5.o⟩
end
section
open Go.RowKit
theorem qt8 {s:ByteArray} (h:sP s):(qj9 s).length≤4105:=by
 have h1:(s.size:Int)≤4096:=h;have h2:=qh1 (n:=(s.size:Int)) (by omega);unfold qj9;rw[List.length_append];have h3:(bts s).length=s.size:=by simp[bts]
 omega
theorem qh5 {α:Type} {f:α→List Int} {l:List α} {P:α→Prop} (h:lP P l) (b:Nat) (hb:∀ x,P x→(f x).length≤b):(qc6 f l).length≤9+b*1024:=by
 have h1:=qh1 (n:=(l.length:Int)) (by have:=h.1;omega)
 have h2:∀ k:List α,(∀ x∈k,P x)→(k.flatMap f).length≤b*k.length:=fun k=>by
  induction k with
  | nil=>intro _;simp
  | cons x r ih =>
   intro hk;have:=ih fun y hy=>hk y (List.mem_cons_of_mem _ hy);have:=hb x (hk x (List.mem_cons_self ..));rw[List.flatMap_cons,List.length_append,List.length_cons,Nat.mul_succ]
   omega
 have h3:=h2 l h.2;have h4:b*l.length≤b*1024:=Nat.mul_le_mul_left b (by have:=h.1;omega);unfold qc6;rw[List.length_append]
 omega
theorem encLt_len {x:Lt} (h:ltP x):(qc8 x).length≤69668:=by
 have h1:=qb6 h.1;have h2:=qb6 h.2.1;have h3:=qt8 h.2.2.1;have h4:=qh5 (f:=qc0) h.2.2.2 64 fun x hx=>qo2 hx;unfold qc8;simp only[List.length_append]
 omega
theorem encWa_len {x:Wa} (h:waP x):(qe1 x).length≤4196:=by
 have h1:=qb6 h.1;have h2:=qb6 h.2.1;have h3:=qt8 h.2.2.1;have h4:=qb6 h.2.2.2.1;have h5:=qo2 h.2.2.2.2;unfold qe1;simp only[List.length_append]
 omega
theorem encPc_len {x:Pc} (h:pcP x):(qg8 x).length≤75702344:=by
 have h1:=qh1 h.1.2;have h2:=qb6 h.2.1;have h3:=qb6 h.2.2.1;have h4:=qb6 h.2.2.2.1;have h5:=qb6 h.2.2.2.2.1;have h6:=qh5 (f:=qc0) h.2.2.2.2.2.1 64 fun x hx=>qo2 hx;have h7:=qh5 (f:=qc8) h.2.2.2.2.2.2.1 69668 fun x hx=>encLt_len hx;have h8:=qh5 (f:=qe1) h.2.2.2.2.2.2.2 4196 fun x hx=>encWa_len hx;unfold qg8;simp only[List.length_append]
 omega
theorem encAn_len {x:An} (h:anP x):(qg7 x).length≤27704:=by
 have h1:=qb6 h.1;have h2:=qb6 h.2.1;have h3:=qb6 h.2.2.1;have h4:=qb6 h.2.2.2.1;have h5:=qh1 h.2.2.2.2.1.2;have h6:=qo5 x.known;have h7:=qo5 x.rooted
 have h8:=qh5 (f:=qe0) h.2.2.2.2.2 27 fun(y:In) (hy:inP y)=>by
  have a:=qb6 hy.1;have b:=qb6 hy.2.1;have c:=qh1 hy.2.2.2
  show(qe0 y).length≤27
  unfold qe0;simp only[List.length_append]
  omega
 unfold qg7;simp only[List.length_append]
 omega
theorem qt9 {y:Nd} (hy:ndP y):(qd4 y).length≤27:=by
 have a:=qb6 hy.1;have b:=qb6 hy.2.1;have c:=qh1 hy.2.2.2;unfold qd4;simp only[List.length_append]
 omega
theorem encCl_len {x:Cl} (h:clP x):(qg5 x).length≤82989:=by
 have h1:=qb6 h.1;have h2:=qb6 h.2.1;have h3:=qh5 (f:=qd4) h.2.2.1 27 fun x hx=>qt9 hx;have h4:=qh5 (f:=qd4) h.2.2.2.1 27 fun x hx=>qt9 hx;have h5:=qh5 (f:=qd4) h.2.2.2.2 27 fun x hx=>qt9 hx;unfold qg5;simp only[List.length_append]
 omega
theorem encMs_len {x:Ms} (h:msP x):(qe6 x).length≤80000000:=by
 obtain⟨h1,h2,h3,h4,h5,h6,h7,h8,h9,h10,h11⟩:=h;have a1:=qb6 h1;have a2:=qb6 h2;have a3:=qb6 h3;have a4:=qb6 h4;have a5:=qh1 h5.2;have a6:=qt8 h6;have a7:=qo2 h7;have a8:=encLt_len h8;have a9:=encPc_len h9;have b1:=encAn_len h10;have b2:=encCl_len h11;unfold qe6;simp only[List.length_append]
 omega
theorem qj1 {α:Type} {f:α→List Int} {l:List α} {P:α→Prop} (h:lP P l) (hb:∀ x,P x→B8 (f x)):B8 (qc6 f l):=by
 refine(qk8 (by have:=h.1;omega)).app ?_;intro y hy;obtain⟨x,hx,hy⟩:=List.mem_flatMap.1 hy;exact hb x (h.2 x hx) y hy
theorem qc2 {n:Int} (h:I64 n):B8 (qb7 n):=qk8 (zz_rg h).2
theorem encS_b8R {s:ByteArray} (h:sP s):B8 (qj9 s):=(qk8 (by have:(s.size:Int)≤4096:=h;omega)).app (bts_b8 s)
theorem encB_b8R (x:Bool):B8 (qk0 x):=by cases x <;> exact B8.one (by decide) (by decide)
theorem qr1 {x:Rf} (h:rfP x):B8 (qc0 x) :=
 ((((((qc2 h.1).app (qc2 h.2.1)).app (qc2 h.2.2.1)).app (qc2 h.2.2.2.1)).app (qk8 h.2.2.2.2.1.2)).app ((qc2 h.2.2.2.2.2.1).app (qc2 h.2.2.2.2.2.2))).app (encB_b8R _)
theorem encLt_b8 {x:Lt} (h:ltP x):B8 (qc8 x):=(((qc2 h.1).app (qc2 h.2.1)).app (encS_b8R h.2.2.1)).app (qj1 h.2.2.2 fun x hx=>qr1 hx)
theorem encWa_b8 {x:Wa} (h:waP x):B8 (qe1 x):=((((qc2 h.1).app (qc2 h.2.1)).app (encS_b8R h.2.2.1)).app (qc2 h.2.2.2.1)).app (qr1 h.2.2.2.2)
theorem encPc_b8 {x:Pc} (h:pcP x):B8 (qg8 x) :=
 (((((qk8 h.1.2).app ((qc2 h.2.1).app (qc2 h.2.2.1))).app ((qc2 h.2.2.2.1).app (qc2 h.2.2.2.2.1))).app (qj1 h.2.2.2.2.2.1 fun x hx=>qr1 hx)).app (qj1 h.2.2.2.2.2.2.1 fun x hx=>encLt_b8 hx)).app (qj1 h.2.2.2.2.2.2.2 fun x hx=>encWa_b8 hx)
theorem encIn_b8 {x:In} (h:inP x):B8 (qe0 x):=((qc2 h.1).app (qc2 h.2.1)).app (qk8 h.2.2.2)
theorem encNd_b8 {x:Nd} (h:ndP x):B8 (qd4 x):=((qc2 h.1).app (qc2 h.2.1)).app (qk8 h.2.2.2)
theorem encAn_b8 {x:An} (h:anP x):B8 (qg7 x) :=
 ((((((qc2 h.1).app (qc2 h.2.1)).app (qc2 h.2.2.1)).app (qc2 h.2.2.2.1)).app (qk8 h.2.2.2.2.1.2)).app (encB_b8R _)).app (encB_b8R _) |>.app (qj1 h.2.2.2.2.2 fun x hx=>encIn_b8 hx)
theorem encCl_b8 {x:Cl} (h:clP x):B8 (qg5 x) :=
 ((((qc2 h.1).app (qc2 h.2.1)).app (qj1 h.2.2.1 fun x hx=>encNd_b8 hx)).app (qj1 h.2.2.2.1 fun x hx=>encNd_b8 hx)).app (qj1 h.2.2.2.2 fun x hx=>encNd_b8 hx)
theorem encMs_b8 {x:Ms} (h:msP x):B8 (qe6 x):=by
 obtain⟨h1,h2,h3,h4,h5,h6,h7,h8,h9,h10,h11⟩:=h;exact((((((((((qc2 h1).app (qc2 h2)).app (qc2 h3)).app (qc2 h4)).app (qk8 h5.2)).app (encS_b8R h6)).app (qr1 h7)).app (encLt_b8 h8)).app (encPc_b8 h9)).app (encAn_b8 h10)).app (encCl_b8 h11)
end
section
open Go.RowKit Go.Sort
attribute [local go_sem] Oper.semAt_some
def args0:List Rf:=[⟨0,0,0,0,0,0,0,false⟩,⟨1,5,0,0,0,0,0,false⟩,⟨3,0,2,9,1,4,0,false⟩]
def x0:Ms:={ Ms.zero with number:=7,letter:=⟨1,3,⟨#[104,105,116]⟩,args0⟩ }
def row0M (b1:Nat):Array Value:=#[iv 0,uv 7,iv 0,.string ⟨#[]⟩,iv 0,iv 0,iv 0,uv 0,iv 0,iv 0,iv 0,bf,iv 1,iv 3,.string ⟨#[104,105,116]⟩,.slice (some ⟨b1,0,none⟩) 3 3,uv 0,iv 0,iv 0,iv 0,iv 0,sn,sn,sn,iv 0,iv 0,iv 0,iv 0,uv 0,iv 0,bf,bf,iv 0,sn,iv 0,iv 0,sn,sn,sn]
theorem x0_p:msP x0:=by
 obtain⟨zp,zi,zs,zr,zl,zc,za,zq⟩:=zero_p;have i:∀ n:Int,0≤n→n≤100→I64 n:=fun n h1 h2=>by unfold I64;omega
 refine⟨zi,zi,zi,zi,by show P64 7;unfold P64;omega,zs,zr,⟨i 1 (by omega) (by omega),i 3 (by omega) (by omega),by show sP ⟨#[104,105,116]⟩;unfold sP;decide,?_⟩,zc,za,zq⟩
 show lP rfP args0
 refine⟨by decide,fun x hx=>?_⟩;have:x=⟨0,0,0,0,0,0,0,false⟩ ∨ x=⟨1,5,0,0,0,0,0,false⟩ ∨ x=⟨3,0,2,9,1,4,0,false⟩:=by simpa [args0] using hx
 rcases this with rfl | rfl | rfl <;> refine⟨i _ ?_ ?_,i _ ?_ ?_,i _ ?_ ?_,i _ ?_ ?_,?_,i _ ?_ ?_,i _ ?_ ?_⟩ <;> first | decide | (show P64 _;unfold P64;decide)
theorem x0_v:msV x0=true:=by decide
theorem dms_enc {x:Ms} (h:msP x) (hv:msV x=true):dms (qe6 x)=(x,0):=by
 have:=codMs.fw x [] h;rw[List.append_nil] at this;unfold dms;rw[this]
 simp[hv]
theorem qn4 {n:Nat} (h:n < 10):dec (n:Int)=⟨#[UInt8.ofNat (48+n)]⟩:=by rw[← dec_nat,Lib.decDigits_one h]
theorem x0_t:fmtV x0=⟨#[100,101,108,105,118,101,114,32,55,32,109,49,58,51,32,104,105,116,40,110,105,108,44,32,53,44,32,111,117,116,32,50,47,57,32,109,49,58,52,41]⟩:=by
 unfold fmtV;rw[x0_v,if_pos rfl];have e1:dec 1=⟨#[49]⟩:=qn4 (n:=1) (by omega);have e2:dec 2=⟨#[50]⟩:=qn4 (n:=2) (by omega);have e3:dec 3=⟨#[51]⟩:=qn4 (n:=3) (by omega);have e4:dec 4=⟨#[52]⟩:=qn4 (n:=4) (by omega);have e5:dec 5=⟨#[53]⟩:=qn4 (n:=5) (by omega);have e7:dec 7=⟨#[55]⟩:=qn4 (n:=7) (by omega);have e9:dec 9=⟨#[57]⟩:=qn4 (n:=9) (by omega);have i1:idT 1 3=⟨#[109,49,58,51]⟩:=by unfold idT;rw[if_pos (by decide),e1,e3];rfl
 have i2:idT 1 4=⟨#[109,49,58,52]⟩:=by unfold idT;rw[if_pos (by decide),e1,e4];rfl
 have r0:rfT ⟨0,0,0,0,0,0,0,false⟩=⟨#[110,105,108]⟩:=rfl;have r1:rfT ⟨1,5,0,0,0,0,0,false⟩=⟨#[53]⟩:=by show dec 5=_;exact e5
 have r2:rfT ⟨3,0,2,9,1,4,0,false⟩=⟨#[111,117,116,32,50,47,57,32,109,49,58,52]⟩:=by
  show⟨#[111,117,116,32]⟩++dec 2++⟨#[47]⟩++dec 9++⟨#[32]⟩++idT 1 4=_
  rw[e2,e9,i2];rfl
 show kS 0++(⟨#[32]⟩++dec 7++⟨#[32]⟩++idT 1 3++⟨#[32]⟩++⟨#[104,105,116]⟩++lsT args0)=_
 have l0:lsT args0=⟨#[40,110,105,108,44,32,53,44,32,111,117,116,32,50,47,57,32,109,49,58,52,41]⟩:=by
  unfold lsT args0;rw[List.map_cons,List.map_cons,List.map_cons,List.map_nil,r0,r1,r2]
  rfl
 rw[e7,i1,l0]
 rfl
theorem x0_len:(qe6 x0).length≤2147483648∧0 < (qe6 x0).length:=by
 have h1:=encMs_len x0_p;have h2:=qc7 x0.kind;refine⟨by omega,?_⟩;unfold qe6;simp only[List.length_append]
 omega
theorem row0_in {w:World} {b1:Nat} (h:Bk w b1 26 #[iv 0,iv 0,iv 0,uv 0,iv 0,iv 0,iv 0,bf,iv 1,iv 5,iv 0,uv 0,iv 0,iv 0,iv 0,bf,iv 3,iv 0,iv 2,uv 9,iv 1,iv 4,iv 0,bf]):MsI w x0 (row0M b1).toList:=by
 refine⟨some ⟨b1,0,none⟩,3,none,0,none,0,none,0,none,0,none,0,none,0,none,0,rfl,?_,LsR.tnil,LsR.tnil,LsR.tnil,LsR.tnil,LsR.tnil,LsR.tnil,LsR.tnil⟩;unfold LsR;rw[if_pos rfl];refine⟨by decide,by decide,.inr ⟨b1,0,rfl,h.lt,fun i x hx=>?_⟩⟩;have hi:i < 3:=(List.getElem?_eq_some_iff.1 hx).1;rcases (show i=0 ∨ i=1 ∨ i=2 by omega) with rfl | rfl | rfl <;> cases hx <;> refine⟨_,rfl,rfl,fun j v hv=>⟨?_,h.free _⟩⟩ <;> (have hj:j < 8:=(List.getElem?_eq_some_iff.1 hv).1) <;> rw[h.cell] <;> rcases (show j=0 ∨ j=1 ∨ j=2 ∨ j=3 ∨ j=4 ∨ j=5 ∨ j=6 ∨ j=7 by omega) with rfl | rfl | rfl | rfl | rfl | rfl | rfl | rfl <;> exact hv
theorem awake27 (w:World) (ht:Tb w):Calls Tryz.prog 10 #[] w (qe7 w true):=by
 obtain⟨w1,hw1⟩:∃ w1,w1=w.alloc (.cells #[iv 0,iv 0,iv 0,uv 0,iv 0,iv 0,iv 0,bf,iv 1,iv 5,iv 0,uv 0,iv 0,iv 0,iv 0,bf,iv 3,iv 0,iv 2,uv 9,iv 1,iv 4,iv 0,bf] 26):=⟨_,rfl⟩
 obtain⟨b1,hb1⟩:∃ b1,b1=w.heap.size:=⟨_,rfl⟩
 have hB1:bw w w1:=by rw[hw1];exact qa2 _ _
 have hq1:Bk w1 b1 26 #[iv 0,iv 0,iv 0,uv 0,iv 0,iv 0,iv 0,bf,iv 1,iv 5,iv 0,uv 0,iv 0,iv 0,iv 0,bf,iv 3,iv 0,iv 2,uv 9,iv 1,iv 4,iv 0,bf]:=by rw[hw1,hb1];exact Bk.new _ _ _
 have HB1:=lh hB1;have HQ1:=lh hq1;have HT:=lh ht;clear hB1 hq1 ht
 go_enter Tryz.func10,Tryz.ntmps10
 go_upto_region 2 with fail
 rw[← hw1,← hb1];clear hw1 hb1;refine wp_region_list ?_
 go_upto_region 3 with (first | (refine wpList_build rfl _ _ rfl (by kernel_rfl) ?_) | (refine qf7 rfl _ _ _ rfl w1.heap.size (row0M b1) (by kernel_rfl) (by kernel_rfl) _ _ (heap_alloc_new w1 _) (by kernel_rfl) (by kernel_rfl) (by kernel_rfl) ?_;intro w2 hk2 hp2) | fail)
 have hmi:=row0_in (HQ1.o.below (show bw w1 w2 from hp2.toBelow (qa2 _ _) (by simp) fun j e=>by omega) HQ1.o.lt);have hb2:bw w1 w2:=hp2.toBelow (qa2 _ _) (by simp) fun j e=>by omega
 obtain⟨g2,hg2⟩:∃ g2,g2=w1.heap.size:=⟨_,rfl⟩
 rw[← hg2] at hk2 ⊢
 obtain⟨M,hM⟩:∃ M,M=row0M b1:=⟨_,rfl⟩
 obtain⟨r,hr⟩:∃ r,r=(row0M b1).toList:=⟨_,rfl⟩
 rw[← hM] at hk2;rw[← hr] at hmi;have hMr:M=r.toArray:=by rw[hM,hr]
 have HSZ:Hid (M.toList.length=39):=lh (by rw[hM];rfl);have HM:=lh hMr;have HI2:=lh hmi;have HK2:=lh hk2;have HB2:=lh (HB1.o.trans (hb2.mono HB1.o.size));have HT2:=lh (HT.o.below HB2.o)
 obtain⟨l,hl⟩:∃ l,l=qe6 x0:=⟨_,rfl⟩
 have HL:Hid (l.length≤2147483648∧B8 l∧dms l=(x0,0)):=lh (by rw[hl];exact⟨x0_len.1,encMs_b8 x0_p,dms_enc x0_p x0_v⟩);have hll:0 < l.length:=by rw[hl];exact x0_len.2
 have cE:Calls Tryz.prog 13 #[.agg M] w2 fun e w'=>∃ v,e=.returned (.tuple #[v,iv 0])∧w'.ownsRow w2.heap.size 5 1 v l.length (qh2 l)∧bw w2 w':=by
  have:=Encode_any HI2.o x0_p x0_len.1;rw[x0_v,if_pos rfl,if_pos rfl,← hl,← HM.o] at this;exact this
 clear hmi hk2 hp2 hb2 hg2 hM hr hMr hl;refine wp_region_list ?_;refine wpList_load_mid rfl _ _ rfl g2 0 rfl M.toList _ HK2.o.rng rfl rfl (by rw[HSZ.o];rfl) ?_;simp only[Array.toArray_toList]
 go_upto_region 4 with (go_at_call 13;refine cE.mono ?_;rintro e w3 ⟨v3,rfl,ho3,hb3⟩)
 obtain⟨A3,c3,rfl,_⟩:=qc1 ho3;have HB3:=lh (HB2.o.trans (hb3.mono HB2.o.size));have HK3:=lh (HK2.o.below hb3 HK2.o.lt);have HI3:=lh (HI2.o.below hb3);have HT3:=lh (HT2.o.below hb3);have cD:=Decode_any (c:=c3) (own_sl ho3) (own_le ho3) HL.o.2.1 HL.o.1;rw[HL.o.2.2] at cD;clear cE ho3 hb3;refine wp_region_list ?_
 go_wp2_with fail
 refine cD.mono ?_;rintro e w4 ⟨r4,rfl,hi4,hb4⟩;have hq4:r4.toArray.toList.length=39:=hi4.len
 obtain⟨N4,hN⟩:∃ N4,N4=r4.toArray:=⟨_,rfl⟩
 rw[← hN] at hq4 ⊢;have hq5:N4.size=39:=by rw[Array.length_toList] at hq4;exact hq4
 have h1c:N4.all (·.oneCell')=true:=by rw[hN];exact msOne hi4
 have HN:=lh hN;have HN4:=lh hq4;have HS4:=lh hq5;have HC4:=lh h1c;have HI4:=lh hi4;have HB34:=lh hb4;have HB4:=lh (HB3.o.trans (hb4.mono HB3.o.size));clear hi4 hq4 hq5 h1c hN hb4 cD
 go_upto_region 5 with (first | (refine qf7 (P:=Tryz.prog) rfl 42 _ _ rfl w4.heap.size N4 rfl rfl _ _ (heap_alloc_new w4 _) (by rw[HS4.o];rfl) (by rw[HS4.o];rfl) HC4.o ?_;intro w5 hk5 hp5) | fail)
 have hb5:bw w4 w5:=hp5.toBelow (qa2 _ _) (by simp) fun j e=>by omega
 have HB5:=lh (HB4.o.trans (hb5.mono HB4.o.size));have HK5:=lh hk5;have HKM5:=lh ((HK3.o.below HB34.o HK3.o.lt).below hb5 (Nat.lt_of_lt_of_le HK3.o.lt HB34.o.size));have HI5:=lh ((HI3.o.below HB34.o).below hb5);have HX5:=lh (HI4.o.below hb5);have HT5:=lh ((HT3.o.below HB34.o).below hb5)
 obtain⟨g5,hg5⟩:∃ g5,g5=w4.heap.size:=⟨_,rfl⟩
 rw[← hg5] at HK5 ⊢
 have cS:Calls Tryz.prog 14 #[.agg N4,.agg M] w5 (qe7 w5 true):=by
  have:=Same_any HX5.o HI5.o;rw[decide_eq_true rfl,← HN.o,← HM.o] at this;exact this
 have h0l:(0:Int) < (l.length:Int):=by omega
 clear hk5 hp5 hb5 hg5
 go_wp2_with (first | (refine qb1 rfl _ _ rfl g5 0 rfl N4.toList _ HK5.o.rng rfl rfl (by rw[HN4.o];rfl) ?_;simp only[Array.toArray_toList]) | (refine qb1 rfl _ _ rfl g2 0 rfl M.toList _ HKM5.o.rng rfl rfl (by rw[HSZ.o];rfl) ?_;simp only[Array.toArray_toList]) | fail)
 refine cS.mono ?_;rintro e w6 ⟨rfl,hb6⟩;have HB6:=lh (HB5.o.trans (hb6.mono HB5.o.size));have HKM6:=lh (HKM5.o.below hb6 HKM5.o.lt)
 have cF:Calls Tryz.prog 18 #[.agg M] w6 (TxP w6 ⟨#[100,101,108,105,118,101,114,32,55,32,109,49,58,51,32,104,105,116,40,110,105,108,44,32,53,44,32,111,117,116,32,50,47,57,32,109,49,58,52,41]⟩):=by
  have:=Format_any (HI5.o.below hb6) x0_p x0_len.1 (HT5.o.below hb6);rw[x0_t,← HM.o] at this;exact this
 clear cS hb6
 go_wp2_with (first | (refine qb1 rfl _ _ rfl g2 0 rfl M.toList _ HKM6.o.rng rfl rfl (by rw[HSZ.o];rfl) ?_;simp only[Array.toArray_toList]) | fail)
 refine cF.mono ?_;rintro e w7 ⟨rfl,hb7⟩;have HB7:=lh (HB6.o.trans (hb7.mono HB6.o.size));clear cF hb7
 go_wp2_with fail
 go_ret;exact⟨rfl,HB7.o⟩
end
section
open Go.RowKit Go.Sort
attribute [local go_sem] Oper.semAt_some
theorem encMs_le {x:Ms} (h:msP x):(qe6 x).length≤2147483648:=Nat.le_trans (encMs_len h) (by decide)
section
variable {w:World} {l:List Int} {A:Option Addr} {c:Nat}
end
end
section
open Go.RowKit Go.Sort
attribute [local go_sem] Oper.semAt_some
def ltT (x:Lt):Prop:=I64 x.idm∧I64 x.ids∧∀ y∈x.args,rfP y
def waT (x:Wa):Prop:=I64 x.idm∧I64 x.ids∧I64 x.key∧rfP x.tgt
def pcT (x:Pc):Prop:=P64 x.number∧I64 x.idm∧I64 x.ids∧I64 x.kind∧I64 x.cls∧(∀ y∈x.fields,rfP y)∧(∀ y∈x.mail,ltT y)∧∀ y∈x.watches,waT y
def anT (x:An):Prop:=I64 x.machine∧I64 x.owner∧I64 x.epoch∧I64 x.last∧P64 x.number∧∀ y∈x.inset,inP y
def clT (x:Cl):Prop:=I64 x.machine∧I64 x.epoch∧(∀ y∈x.stubs,ndP y)∧(∀ y∈x.scions,ndP y)∧∀ y∈x.checks,ndP y
def msT (x:Ms):Prop:=I64 x.kind∧I64 x.asker∧I64 x.tm∧I64 x.ts∧P64 x.number∧rfP x.ref∧ltT x.letter∧pcT x.parcel∧anT x.answer∧clT x.claim
theorem few_p {x:Ms} (h:msT x) (hf:fewV x=true):msP x:=by
 unfold fewV at hf;simp only[Bool.and_eq_true,decide_eq_true_eq,List.all_eq_true] at hf;obtain⟨⟨⟨⟨⟨⟨⟨⟨⟨f1,f2⟩,f3⟩,f4⟩,f5⟩,f6⟩,f7⟩,f8⟩,f9⟩,fa⟩:=hf;obtain⟨h1,h2,h3,h4,h5,h6,h7,h8,h9,h10⟩:=h;have s:∀ {b:ByteArray},b.size≤100→sP b:=fun h=>by unfold sP;omega
 have l:∀ {α:Type} {P:α→Prop} {k:List α},k.length≤1024→(∀ y∈k,P y)→lP P k:=fun h1 h2=>⟨by omega,h2⟩
 have hl:∀ y:Lt,ltT y→qt5 y=true→ltP y:=fun y hy hf=>by
  unfold qt5 at hf;simp only[Bool.and_eq_true,decide_eq_true_eq] at hf;exact⟨hy.1,hy.2.1,s hf.2,l (by omega) hy.2.2⟩
 have hw:∀ y:Wa,waT y→fewWa y=true→waP y:=fun y hy hf=>by
  unfold fewWa at hf;simp only[decide_eq_true_eq] at hf;exact⟨hy.1,hy.2.1,s hf,hy.2.2.1,hy.2.2.2⟩
 exact⟨h1,h2,h3,h4,h5,s f1,h6,⟨h7.1,h7.2.1,s f2,l (by omega) h7.2.2⟩,
  ⟨h8.1,h8.2.1,h8.2.2.1,h8.2.2.2.1,h8.2.2.2.2.1,l (by omega) h8.2.2.2.2.2.1,l (by omega) fun y hy=>hl y (h8.2.2.2.2.2.2.1 y hy) (f9 y hy),l (by omega) fun y hy=>hw y (h8.2.2.2.2.2.2.2 y hy) (fa y hy)⟩,
  ⟨h9.1,h9.2.1,h9.2.2.1,h9.2.2.2.1,h9.2.2.2.2.1,l (by omega) h9.2.2.2.2.2⟩,⟨h10.1,h10.2.1,l (by omega) h10.2.2.1,l (by omega) h10.2.2.2.1,l (by omega) h10.2.2.2.2⟩⟩
end
end Go.Proofs.YtmbnlccafcfbeaaGreatDoor
