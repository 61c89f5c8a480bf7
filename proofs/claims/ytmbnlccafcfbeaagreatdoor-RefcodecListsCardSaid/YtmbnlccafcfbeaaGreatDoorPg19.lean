/- Parts of the proof: RcTx5, RcTx6, RcO3, RcAw, LwB, LwD, RlA, RlB. -/
import Derived.Test.YtmbnlccafcfbeaaGreatDoorPgA
import Derived.Test.YtmbnlccafcfbeaaGreatDoorPg16
import Derived.Test.YtmbnlccafcfbeaaGreatDoorPg18
set_option linter.unusedVariables false
set_option linter.unusedSimpArgs false
set_option linter.unusedSectionVars false
set_option maxRecDepth 100000
set_option maxHeartbeats 64000000
namespace Go.Proofs.YtmbnlccafcfbeaaGreatDoor
section
open Go.RowKit Go.Sort
attribute [local go_sem] Oper.semAt_some
theorem qi2 {P:Program} {ops:Array Oper} {C:World→Prop} {Q:Act→Prop} {o:Oper} {rest:List Oper} {a:Act} (hw:Region.wanted o (yielded ops a.tmps)=true) (ty:TypeId) (x:Operand) (ho:o.op=.load ty x) (b off:Nat) (hx:a.eval x=.pointer (some ⟨b,off,none⟩)) (A:Array Value) (d:TypeDesc) (hc:∀ w,C w→w.rangeAt b off A.toList) (hu:P.underlying ty=some d) (hd:d.isRow=true) (hi:(P.info? ty).map (·.size)=some A.toList.length) (h:wpQuiet P ops C Q rest (a.put o.dst (.agg A))):wpQuiet P ops C Q (o::rest) a:=by
 unfold wpQuiet;rw[if_pos hw];refine⟨.agg A,fun w hw'=>?_,h⟩;unfold Oper.quietAt execOp;simp only[ho,hx,Instr.loadAt,Instr.sureAddr,Sem.run_bind,Sem.run_pure,Result.andThen_ok,run_loadVar_mid w b off ty A.toList d (hc w hw') hu hd hi];exact⟨rfl,by simp⟩
theorem Bk.rgr {w:World} {g:Nat} {t:TypeId} {M:Array Value} (h:Bk w g t M):∀ w',(∃ p:Regrown,w'=grow (redrawn w p.d) p.os)→w'.rangeAt g 0 M.toList:=fun w' hw'=>(h.below (qf3 hw') h.lt).rng
theorem lsT_le {l:List Rf} (hl:l.length≤1024) (h:∀ x∈l,rfP x):(lsT l).size≤101378:=by
 have:=lsT_size hl h;unfold lsT;simp only[ByteArray.size_append]
 show 1+(jn (l.map rfT)).size+1≤_
 omega
def trT (x:Ms):ByteArray:=dec x.tm++⟨#[47]⟩++dec x.ts
theorem qn9 {x:Ms} (h1:I64 x.tm) (h2:I64 x.ts):(trT x).size≤43:=by
 have:=qc9 x.tm h1.1 h1.2;have:=qc9 x.ts h2.1 h2.2;unfold trT;simp only[ByteArray.size_append]
 show(dec x.tm).size+1+(dec x.ts).size≤43
 omega
theorem qm4 {w:World} {x:Ms} {A1:Option Addr} {c1:Nat} {A2:Option Addr} {c2:Nat} {A3:Option Addr} {c3:Nat} {A4:Option Addr} {c4:Nat} {A5:Option Addr} {c5:Nat} {A6:Option Addr} {c6:Nat} {A7:Option Addr} {c7:Nat} {A8:Option Addr} {c8:Nat} (h1:I64 x.tm) (h2:I64 x.ts) (ht:Tb w):Calls Tryz.prog 91 #[.agg (mC x A1 A2 A3 A4 A5 A6 A7 A8 c1 c2 c3 c4 c5 c6 c7 c8)] w (TxP w (trT x)):=by
 obtain⟨M,hM⟩:∃ M:Array Value,M=(mC x A1 A2 A3 A4 A5 A6 A7 A8 c1 c2 c3 c4 c5 c6 c7 c8):=⟨_,rfl⟩
 rw[← hM];have HM:=lh hM
 obtain⟨W,hW⟩:∃ W,W=w.alloc (.cells M 42):=⟨_,rfl⟩
 obtain⟨g,hg⟩:∃ g,g=w.heap.size:=⟨_,rfl⟩
 have hb0:bw w W:=by rw[hW];exact qa2 _ _
 have hk0:Bk W g 42 M:=by rw[hW,hg];exact Bk.new _ _ _
 have HB0:=lh hb0;have a24:cl W g 24 (iv x.tm):=(hk0.cell 24).trans (by rw[HM.o];rfl);have a25:cl W g 25 (iv x.ts):=(hk0.cell 25).trans (by rw[HM.o];rfl);have ka24:=cell_regrown a24;have ka25:=cell_regrown a25;have HT:=lh (ht.below hb0);have z1:=qc9 x.tm h1.1 h1.2;have z2:=qc9 x.ts h2.1 h2.2;have t1:¬ 9223372036854775807 < (dec x.tm).size+1:=by omega
 have t2:¬ 9223372036854775807 < (dec x.tm).size+1+(dec x.ts).size:=by omega
 have k1:=fun dd os=>Calls.regrown_of (w:=W) (d:=dd) (os:=os) (qh3 x.tm h1.1 h1.2 _ (HT.o.below (below_regrown W dd os)));have k2:=fun dd os=>Calls.regrown_of (w:=W) (d:=dd) (os:=os) (qh3 x.ts h2.1 h2.2 _ (HT.o.below (below_regrown W dd os)));clear hb0 hk0 hM ht h1 h2
 go_enter Tryz.func91,Tryz.ntmps91
 go_upto_region 1 with fail
 rw[← hW,← hg];clear hW hg a24 a25;refine wp_region_quiet_below (by kernel_rfl) (by kernel_rfl) ?_
 repeat (quiet_step (first | exact k1 _ _ | exact k2 _ _))
 refine wpQuiet_nil ?_;intro w3 hw';have HB3:=lh (HB0.o.trans ((qf3 hw').mono HB0.o.size));clear hw' k1 k2 ka24 ka25
 go_wp2_with fail
 go_ret;exact⟨rfl,HB3.o⟩
theorem Txt0 {w:World} {x:Ms} {r:List Value} (h:MsI w x r) (hx:msP x) (ht:Tb w):Calls Tryz.prog 75 #[.agg r.toArray] w (TxP w (⟨#[32]⟩++dec x.number++⟨#[32]⟩++idT x.letter.idm x.letter.ids++⟨#[32]⟩++x.letter.meth++lsT x.letter.args)):=by
 obtain⟨A1,c1,A2,c2,A3,c3,A4,c4,A5,c5,A6,c6,A7,c7,A8,c8,hr,hl1,hl2,hl3,hl4,hl5,hl6,hl7,hl8⟩:=h
 obtain⟨M,hM⟩:∃ M,M=r.toArray:=⟨_,rfl⟩
 rw[← hM];rw[hr] at hM;clear hr hl3 hl4 hl5 hl6 hl7 hl8;have HM:=lh hM
 obtain⟨W,hW⟩:∃ W,W=w.alloc (.cells M 42):=⟨_,rfl⟩
 obtain⟨g,hg⟩:∃ g,g=w.heap.size:=⟨_,rfl⟩
 have hb0:bw w W:=by rw[hW];exact qa2 _ _
 have hk0:Bk W g 42 M:=by rw[hW,hg];exact Bk.new _ _ _
 have HT:=lh (ht.below hb0);have HX:=lh hx;have HB0:=lh hb0;have HK0:=lh hk0;have ML1:Hid (LsI (qa6 rfC) 26 8 W A1 c1 x.letter.args):=lh (LsI.below (show LsI (qa6 rfC) 26 8 w A1 c1 x.letter.args from hl1) (qa1 rfC) (qa0 rfC) hb0);have a1:cl W g 1 (uv x.number):=(hk0.cell 1).trans (by rw[HM.o];rfl);have ka1:=cell_regrown a1;have a12:cl W g 12 (iv x.letter.idm):=(hk0.cell 12).trans (by rw[HM.o];rfl);have ka12:=cell_regrown a12;have a13:cl W g 13 (iv x.letter.ids):=(hk0.cell 13).trans (by rw[HM.o];rfl);have ka13:=cell_regrown a13;have a14:cl W g 14 (.string x.letter.meth):=(hk0.cell 14).trans (by rw[HM.o];rfl);have ka14:=cell_regrown a14;have a15:cl W g 15 (.slice A1 x.letter.args.length c1):=(hk0.cell 15).trans (by rw[HM.o];rfl);have ka15:=cell_regrown a15;have z1:(dec x.number).size≤20:=qf6 HX.o.2.2.2.2.1.1 HX.o.2.2.2.2.1.2;have z3:(idT x.letter.idm x.letter.ids).size≤44:=qm1 HX.o.2.2.2.2.2.2.2.1.1 HX.o.2.2.2.2.2.2.2.1.2.1;have z5:x.letter.meth.size≤4096:=by have:(x.letter.meth.size:Int)≤4096:=HX.o.2.2.2.2.2.2.2.1.2.2.1;omega
 have z6:(lsT x.letter.args).size≤101378:=lsT_le (by have:=HX.o.2.2.2.2.2.2.2.1.2.2.2.1;omega) HX.o.2.2.2.2.2.2.2.1.2.2.2.2;have t1:¬ 9223372036854775807 < 1+(dec x.number).size:=by omega
 have t2:¬ 9223372036854775807 < 1+(dec x.number).size+1:=by omega
 have t3:¬ 9223372036854775807 < 1+(dec x.number).size+1+(idT x.letter.idm x.letter.ids).size:=by omega
 have t4:¬ 9223372036854775807 < 1+(dec x.number).size+1+(idT x.letter.idm x.letter.ids).size+1:=by omega
 have t5:¬ 9223372036854775807 < 1+(dec x.number).size+1+(idT x.letter.idm x.letter.ids).size+1+(x.letter.meth).size:=by omega
 have t6:¬ 9223372036854775807 < 1+(dec x.number).size+1+(idT x.letter.idm x.letter.ids).size+1+(x.letter.meth).size+(lsT x.letter.args).size:=by omega
 have k1:=fun dd os=>Calls.regrown_of (w:=W) (d:=dd) (os:=os) (f:=76) (qn7 (u:=x.number) HX.o.2.2.2.2.1 _ (HT.o.below (below_regrown W dd os)));have k3:=fun dd os=>Calls.regrown_of (w:=W) (d:=dd) (os:=os) (f:=77) (qw3 (a:=x.letter.idm) (b:=x.letter.ids) HX.o.2.2.2.2.2.2.2.1.1 HX.o.2.2.2.2.2.2.2.1.2.1 _ (HT.o.below (below_regrown W dd os)));have k6:=fun dd os=>Calls.regrown_of (w:=W) (d:=dd) (os:=os) (f:=78) (qq3 (LsI.below ML1.o (qa1 rfC) (qa0 rfC) (below_regrown W dd os)) (Nat.le_of_lt_succ (by have:=HX.o.2.2.2.2.2.2.2.1.2.2.2.1;omega)) HX.o.2.2.2.2.2.2.2.1.2.2.2.2 (HT.o.below (below_regrown W dd os)));clear hb0 hk0 hM ht hx hl1 hl2
 go_enter Tryz.func75,Tryz.ntmps75
 go_upto_region 1 with fail
 rw[← hW,← hg];clear hW hg;clear a1 a12 a13 a14 a15;refine wp_region_quiet_below (by kernel_rfl) (by kernel_rfl) ?_
 repeat (first | quiet_step (first | exact k1 _ _ | exact k3 _ _ | exact k6 _ _))
 refine wpQuiet_nil ?_;intro w3 hw';have HB3:=lh (HB0.o.trans ((qf3 hw').mono HB0.o.size));clear hw' k1 k3 k6 ka1 ka12 ka13 ka14 ka15
 go_wp2_with fail
 go_ret;exact⟨rfl,HB3.o⟩
theorem Txt1 {w:World} {x:Ms} {r:List Value} (h:MsI w x r) (hx:msP x) (ht:Tb w):Calls Tryz.prog 82 #[.agg r.toArray] w (TxP w (⟨#[32]⟩++dec x.parcel.number++⟨#[32]⟩++idT x.parcel.idm x.parcel.ids++⟨#[32,99,108,97,115,115,32]⟩++dec x.parcel.cls++⟨#[32]⟩++lsT x.parcel.fields)):=by
 obtain⟨A1,c1,A2,c2,A3,c3,A4,c4,A5,c5,A6,c6,A7,c7,A8,c8,hr,hl1,hl2,hl3,hl4,hl5,hl6,hl7,hl8⟩:=h
 obtain⟨M,hM⟩:∃ M,M=r.toArray:=⟨_,rfl⟩
 rw[← hM];rw[hr] at hM;clear hr hl3 hl4 hl5 hl6 hl7 hl8;have HM:=lh hM
 obtain⟨W,hW⟩:∃ W,W=w.alloc (.cells M 42):=⟨_,rfl⟩
 obtain⟨g,hg⟩:∃ g,g=w.heap.size:=⟨_,rfl⟩
 have hb0:bw w W:=by rw[hW];exact qa2 _ _
 have hk0:Bk W g 42 M:=by rw[hW,hg];exact Bk.new _ _ _
 have HT:=lh (ht.below hb0);have HX:=lh hx;have HB0:=lh hb0;have HK0:=lh hk0;have ML2:Hid (LsI (qa6 rfC) 26 8 W A2 c2 x.parcel.fields):=lh (LsI.below (show LsI (qa6 rfC) 26 8 w A2 c2 x.parcel.fields from hl2) (qa1 rfC) (qa0 rfC) hb0);have a16:cl W g 16 (uv x.parcel.number):=(hk0.cell 16).trans (by rw[HM.o];rfl);have ka16:=cell_regrown a16;have a17:cl W g 17 (iv x.parcel.idm):=(hk0.cell 17).trans (by rw[HM.o];rfl);have ka17:=cell_regrown a17;have a18:cl W g 18 (iv x.parcel.ids):=(hk0.cell 18).trans (by rw[HM.o];rfl);have ka18:=cell_regrown a18;have a20:cl W g 20 (iv x.parcel.cls):=(hk0.cell 20).trans (by rw[HM.o];rfl);have ka20:=cell_regrown a20;have a21:cl W g 21 (.slice A2 x.parcel.fields.length c2):=(hk0.cell 21).trans (by rw[HM.o];rfl);have ka21:=cell_regrown a21;have z1:(dec x.parcel.number).size≤20:=qf6 HX.o.2.2.2.2.2.2.2.2.1.1.1 HX.o.2.2.2.2.2.2.2.2.1.1.2;have z3:(idT x.parcel.idm x.parcel.ids).size≤44:=qm1 HX.o.2.2.2.2.2.2.2.2.1.2.1 HX.o.2.2.2.2.2.2.2.2.1.2.2.1;have z5:(dec x.parcel.cls).size≤21:=qc9 _ HX.o.2.2.2.2.2.2.2.2.1.2.2.2.2.1.1 HX.o.2.2.2.2.2.2.2.2.1.2.2.2.2.1.2;have z7:(lsT x.parcel.fields).size≤101378:=lsT_le (by have:=HX.o.2.2.2.2.2.2.2.2.1.2.2.2.2.2.1.1;omega) HX.o.2.2.2.2.2.2.2.2.1.2.2.2.2.2.1.2;have t1:¬ 9223372036854775807 < 1+(dec x.parcel.number).size:=by omega
 have t2:¬ 9223372036854775807 < 1+(dec x.parcel.number).size+1:=by omega
 have t3:¬ 9223372036854775807 < 1+(dec x.parcel.number).size+1+(idT x.parcel.idm x.parcel.ids).size:=by omega
 have t4:¬ 9223372036854775807 < 1+(dec x.parcel.number).size+1+(idT x.parcel.idm x.parcel.ids).size+7:=by omega
 have t5:¬ 9223372036854775807 < 1+(dec x.parcel.number).size+1+(idT x.parcel.idm x.parcel.ids).size+7+(dec x.parcel.cls).size:=by omega
 have t6:¬ 9223372036854775807 < 1+(dec x.parcel.number).size+1+(idT x.parcel.idm x.parcel.ids).size+7+(dec x.parcel.cls).size+1:=by omega
 have t7:¬ 9223372036854775807 < 1+(dec x.parcel.number).size+1+(idT x.parcel.idm x.parcel.ids).size+7+(dec x.parcel.cls).size+1+(lsT x.parcel.fields).size:=by omega
 have k1:=fun dd os=>Calls.regrown_of (w:=W) (d:=dd) (os:=os) (f:=76) (qn7 (u:=x.parcel.number) HX.o.2.2.2.2.2.2.2.2.1.1 _ (HT.o.below (below_regrown W dd os)));have k3:=fun dd os=>Calls.regrown_of (w:=W) (d:=dd) (os:=os) (f:=77) (qw3 (a:=x.parcel.idm) (b:=x.parcel.ids) HX.o.2.2.2.2.2.2.2.2.1.2.1 HX.o.2.2.2.2.2.2.2.2.1.2.2.1 _ (HT.o.below (below_regrown W dd os)));have k5:=fun dd os=>Calls.regrown_of (w:=W) (d:=dd) (os:=os) (f:=83) (qh3 x.parcel.cls HX.o.2.2.2.2.2.2.2.2.1.2.2.2.2.1.1 HX.o.2.2.2.2.2.2.2.2.1.2.2.2.2.1.2 _ (HT.o.below (below_regrown W dd os)));have k7:=fun dd os=>Calls.regrown_of (w:=W) (d:=dd) (os:=os) (f:=78) (qq3 (LsI.below ML2.o (qa1 rfC) (qa0 rfC) (below_regrown W dd os)) (Nat.le_of_lt_succ (by have:=HX.o.2.2.2.2.2.2.2.2.1.2.2.2.2.2.1.1;omega)) HX.o.2.2.2.2.2.2.2.2.1.2.2.2.2.2.1.2 (HT.o.below (below_regrown W dd os)));clear hb0 hk0 hM ht hx hl1 hl2
 go_enter Tryz.func82,Tryz.ntmps82
 go_upto_region 1 with fail
 rw[← hW,← hg];clear hW hg;clear a16 a17 a18 a20 a21;refine wp_region_quiet_below (by kernel_rfl) (by kernel_rfl) ?_
 repeat (first | quiet_step (first | exact k1 _ _ | exact k3 _ _ | exact k5 _ _ | exact k7 _ _))
 refine wpQuiet_nil ?_;intro w3 hw';have HB3:=lh (HB0.o.trans ((qf3 hw').mono HB0.o.size));clear hw' k1 k3 k5 k7 ka16 ka17 ka18 ka20 ka21
 go_wp2_with fail
 go_ret;exact⟨rfl,HB3.o⟩
theorem Txt2 {w:World} {x:Ms} {r:List Value} (h:MsI w x r) (hx:msP x) (ht:Tb w):Calls Tryz.prog 145 #[.agg r.toArray] w (TxP w (⟨#[32]⟩++dec x.number++⟨#[32,102,111,114,32]⟩++dec x.asker)):=by
 obtain⟨A1,c1,A2,c2,A3,c3,A4,c4,A5,c5,A6,c6,A7,c7,A8,c8,hr,hl1,hl2,hl3,hl4,hl5,hl6,hl7,hl8⟩:=h
 obtain⟨M,hM⟩:∃ M,M=r.toArray:=⟨_,rfl⟩
 rw[← hM];rw[hr] at hM;clear hr hl3 hl4 hl5 hl6 hl7 hl8;have HM:=lh hM
 obtain⟨W,hW⟩:∃ W,W=w.alloc (.cells M 42):=⟨_,rfl⟩
 obtain⟨g,hg⟩:∃ g,g=w.heap.size:=⟨_,rfl⟩
 have hb0:bw w W:=by rw[hW];exact qa2 _ _
 have hk0:Bk W g 42 M:=by rw[hW,hg];exact Bk.new _ _ _
 have HT:=lh (ht.below hb0);have HX:=lh hx;have HB0:=lh hb0;have HK0:=lh hk0;have a1:cl W g 1 (uv x.number):=(hk0.cell 1).trans (by rw[HM.o];rfl);have ka1:=cell_regrown a1;have a2:cl W g 2 (iv x.asker):=(hk0.cell 2).trans (by rw[HM.o];rfl);have ka2:=cell_regrown a2;have z1:(dec x.number).size≤20:=qf6 HX.o.2.2.2.2.1.1 HX.o.2.2.2.2.1.2;have z3:(dec x.asker).size≤21:=qc9 _ HX.o.2.1.1 HX.o.2.1.2;have t1:¬ 9223372036854775807 < 1+(dec x.number).size:=by omega
 have t2:¬ 9223372036854775807 < 1+(dec x.number).size+5:=by omega
 have t3:¬ 9223372036854775807 < 1+(dec x.number).size+5+(dec x.asker).size:=by omega
 have k1:=fun dd os=>Calls.regrown_of (w:=W) (d:=dd) (os:=os) (f:=76) (qn7 (u:=x.number) HX.o.2.2.2.2.1 _ (HT.o.below (below_regrown W dd os)));have k3:=fun dd os=>Calls.regrown_of (w:=W) (d:=dd) (os:=os) (f:=83) (qh3 x.asker HX.o.2.1.1 HX.o.2.1.2 _ (HT.o.below (below_regrown W dd os)));clear hb0 hk0 hM ht hx hl1 hl2
 go_enter Tryz.func145,Tryz.ntmps145
 go_upto_region 1 with fail
 rw[← hW,← hg];clear hW hg;clear a1 a2;refine wp_region_quiet_below (by kernel_rfl) (by kernel_rfl) ?_
 repeat (first | quiet_step (first | exact k1 _ _ | exact k3 _ _))
 refine wpQuiet_nil ?_;intro w3 hw';have HB3:=lh (HB0.o.trans ((qf3 hw').mono HB0.o.size));clear hw' k1 k3 ka1 ka2
 go_wp2_with fail
 go_ret;exact⟨rfl,HB3.o⟩
theorem Txt4 {w:World} {x:Ms} {r:List Value} (h:MsI w x r) (hx:msP x) (ht:Tb w):Calls Tryz.prog 148 #[.agg r.toArray] w (TxP w (⟨#[32]⟩++rfT x.ref)):=by
 obtain⟨A1,c1,A2,c2,A3,c3,A4,c4,A5,c5,A6,c6,A7,c7,A8,c8,hr,hl1,hl2,hl3,hl4,hl5,hl6,hl7,hl8⟩:=h
 obtain⟨M,hM⟩:∃ M,M=r.toArray:=⟨_,rfl⟩
 rw[← hM];rw[hr] at hM;clear hr hl3 hl4 hl5 hl6 hl7 hl8;have HM:=lh hM
 obtain⟨W,hW⟩:∃ W,W=w.alloc (.cells M 42):=⟨_,rfl⟩
 obtain⟨g,hg⟩:∃ g,g=w.heap.size:=⟨_,rfl⟩
 have hb0:bw w W:=by rw[hW];exact qa2 _ _
 have hk0:Bk W g 42 M:=by rw[hW,hg];exact Bk.new _ _ _
 have HT:=lh (ht.below hb0);have HX:=lh hx;have HB0:=lh hb0;have HK0:=lh hk0;have a4:cl W g 4 (iv x.ref.kind):=(hk0.cell 4).trans (by rw[HM.o];rfl);have a5:cl W g 5 (iv x.ref.int):=(hk0.cell 5).trans (by rw[HM.o];rfl);have a6:cl W g 6 (iv x.ref.owner):=(hk0.cell 6).trans (by rw[HM.o];rfl);have a7:cl W g 7 (uv x.ref.number):=(hk0.cell 7).trans (by rw[HM.o];rfl);have a8:cl W g 8 (iv x.ref.idm):=(hk0.cell 8).trans (by rw[HM.o];rfl);have a9:cl W g 9 (iv x.ref.ids):=(hk0.cell 9).trans (by rw[HM.o];rfl);have a10:cl W g 10 (iv x.ref.cls):=(hk0.cell 10).trans (by rw[HM.o];rfl);have a11:cl W g 11 (.bool x.ref.weak):=(hk0.cell 11).trans (by rw[HM.o];rfl);have z1:(rfT x.ref).size≤97:=qq8 HX.o.2.2.2.2.2.2.1;have t1:¬ 9223372036854775807 < 1+(rfT x.ref).size:=by omega
 have k1:Calls Tryz.prog 105 _ W _:=qn6 (x:=x.ref) HX.o.2.2.2.2.2.2.1 _ HT.o;clear hb0 hk0 hM ht hx hl1 hl2
 go_enter Tryz.func148,Tryz.ntmps148
 go_upto_region 1 with fail
 rw[← hW,← hg];clear hW hg
 go_wp2_with fail
 refine k1.mono ?_;rintro e w2 ⟨rfl,hb2⟩;have HB2:=lh (HB0.o.trans (hb2.mono HB0.o.size));clear hb2
 go_wp2_with fail
 go_ret;exact⟨rfl,HB2.o⟩
theorem Txt5 {w:World} {x:Ms} {r:List Value} (h:MsI w x r) (hx:msP x) (ht:Tb w):Calls Tryz.prog 86 #[.agg r.toArray] w (TxP w (⟨#[32]⟩++dec x.number)):=by
 obtain⟨A1,c1,A2,c2,A3,c3,A4,c4,A5,c5,A6,c6,A7,c7,A8,c8,hr,hl1,hl2,hl3,hl4,hl5,hl6,hl7,hl8⟩:=h
 obtain⟨M,hM⟩:∃ M,M=r.toArray:=⟨_,rfl⟩
 rw[← hM];rw[hr] at hM;clear hr hl3 hl4 hl5 hl6 hl7 hl8;have HM:=lh hM
 obtain⟨W,hW⟩:∃ W,W=w.alloc (.cells M 42):=⟨_,rfl⟩
 obtain⟨g,hg⟩:∃ g,g=w.heap.size:=⟨_,rfl⟩
 have hb0:bw w W:=by rw[hW];exact qa2 _ _
 have hk0:Bk W g 42 M:=by rw[hW,hg];exact Bk.new _ _ _
 have HT:=lh (ht.below hb0);have HX:=lh hx;have HB0:=lh hb0;have HK0:=lh hk0;have a1:cl W g 1 (uv x.number):=(hk0.cell 1).trans (by rw[HM.o];rfl);have z1:(dec x.number).size≤20:=qf6 HX.o.2.2.2.2.1.1 HX.o.2.2.2.2.1.2;have t1:¬ 9223372036854775807 < 1+(dec x.number).size:=by omega
 have k1:Calls Tryz.prog 76 _ W _:=qn7 (u:=x.number) HX.o.2.2.2.2.1 _ HT.o;clear hb0 hk0 hM ht hx hl1 hl2
 go_enter Tryz.func86,Tryz.ntmps86
 go_upto_region 1 with fail
 rw[← hW,← hg];clear hW hg
 go_wp2_with fail
 refine k1.mono ?_;rintro e w2 ⟨rfl,hb2⟩;have HB2:=lh (HB0.o.trans (hb2.mono HB0.o.size));clear hb2
 go_wp2_with fail
 go_ret;exact⟨rfl,HB2.o⟩
theorem Txt8 {w:World} {x:Ms} {r:List Value} (h:MsI w x r) (hx:msP x) (ht:Tb w):Calls Tryz.prog 90 #[.agg r.toArray] w (TxP w (⟨#[32]⟩++trT x++⟨#[32]⟩++dec x.number++⟨#[32,111,102,32]⟩++dec x.asker)):=by
 obtain⟨A1,c1,A2,c2,A3,c3,A4,c4,A5,c5,A6,c6,A7,c7,A8,c8,hr,hl1,hl2,hl3,hl4,hl5,hl6,hl7,hl8⟩:=h
 obtain⟨M,hM⟩:∃ M,M=r.toArray:=⟨_,rfl⟩
 rw[← hM];rw[hr] at hM;clear hr hl3 hl4 hl5 hl6 hl7 hl8;have HM:=lh hM
 obtain⟨W,hW⟩:∃ W,W=w.alloc (.cells M 42):=⟨_,rfl⟩
 obtain⟨g,hg⟩:∃ g,g=w.heap.size:=⟨_,rfl⟩
 have hb0:bw w W:=by rw[hW];exact qa2 _ _
 have hk0:Bk W g 42 M:=by rw[hW,hg];exact Bk.new _ _ _
 have HT:=lh (ht.below hb0);have HX:=lh hx;have HB0:=lh hb0;have HK0:=lh hk0;have a1:cl W g 1 (uv x.number):=(hk0.cell 1).trans (by rw[HM.o];rfl);have ka1:=cell_regrown a1;have a2:cl W g 2 (iv x.asker):=(hk0.cell 2).trans (by rw[HM.o];rfl);have ka2:=cell_regrown a2;have HSZ:Hid (M.toList.length=39):=lh (by rw[Array.length_toList,HM.o];rfl);have z1:(trT x).size≤43:=qn9 HX.o.2.2.1 HX.o.2.2.2.1;have z3:(dec x.number).size≤20:=qf6 HX.o.2.2.2.2.1.1 HX.o.2.2.2.2.1.2;have z5:(dec x.asker).size≤21:=qc9 _ HX.o.2.1.1 HX.o.2.1.2;have t1:¬ 9223372036854775807 < 1+(trT x).size:=by omega
 have t2:¬ 9223372036854775807 < 1+(trT x).size+1:=by omega
 have t3:¬ 9223372036854775807 < 1+(trT x).size+1+(dec x.number).size:=by omega
 have t4:¬ 9223372036854775807 < 1+(trT x).size+1+(dec x.number).size+4:=by omega
 have t5:¬ 9223372036854775807 < 1+(trT x).size+1+(dec x.number).size+4+(dec x.asker).size:=by omega
 have k1:=fun dd os=>Calls.regrown_of (w:=W) (d:=dd) (os:=os) (f:=91) ((show Calls Tryz.prog 91 #[.agg M] (grow (redrawn W dd) os) (TxP (grow (redrawn W dd) os) (trT x)) by rw[HM.o];exact qm4 HX.o.2.2.1 HX.o.2.2.2.1 (HT.o.below (below_regrown W dd os))));have k3:=fun dd os=>Calls.regrown_of (w:=W) (d:=dd) (os:=os) (f:=76) (qn7 (u:=x.number) HX.o.2.2.2.2.1 _ (HT.o.below (below_regrown W dd os)));have k5:=fun dd os=>Calls.regrown_of (w:=W) (d:=dd) (os:=os) (f:=83) (qh3 x.asker HX.o.2.1.1 HX.o.2.1.2 _ (HT.o.below (below_regrown W dd os)));clear hb0 hk0 hM ht hx hl1 hl2
 go_enter Tryz.func90,Tryz.ntmps90
 go_upto_region 1 with fail
 rw[← hW,← hg];clear hW hg;clear a1 a2;refine wp_region_quiet_below (by kernel_rfl) (by kernel_rfl) ?_
 repeat (first | (refine qi2 rfl _ _ rfl g 0 rfl M _ HK0.o.rgr rfl rfl (by rw[HSZ.o];rfl) ?_) | quiet_step (first | exact k1 _ _ | exact k3 _ _ | exact k5 _ _))
 refine wpQuiet_nil ?_;intro w3 hw';have HB3:=lh (HB0.o.trans ((qf3 hw').mono HB0.o.size));clear hw' k1 k3 k5 ka1 ka2
 go_wp2_with fail
 go_ret;exact⟨rfl,HB3.o⟩
theorem Txt9 {w:World} {x:Ms} {r:List Value} (h:MsI w x r) (hx:msP x) (ht:Tb w):Calls Tryz.prog 95 #[.agg r.toArray] w (TxP w (⟨#[32]⟩++trT x++⟨#[32,109,97,99,104,105,110,101,32]⟩++dec x.answer.machine)):=by
 obtain⟨A1,c1,A2,c2,A3,c3,A4,c4,A5,c5,A6,c6,A7,c7,A8,c8,hr,hl1,hl2,hl3,hl4,hl5,hl6,hl7,hl8⟩:=h
 obtain⟨M,hM⟩:∃ M,M=r.toArray:=⟨_,rfl⟩
 rw[← hM];rw[hr] at hM;clear hr hl3 hl4 hl5 hl6 hl7 hl8;have HM:=lh hM
 obtain⟨W,hW⟩:∃ W,W=w.alloc (.cells M 42):=⟨_,rfl⟩
 obtain⟨g,hg⟩:∃ g,g=w.heap.size:=⟨_,rfl⟩
 have hb0:bw w W:=by rw[hW];exact qa2 _ _
 have hk0:Bk W g 42 M:=by rw[hW,hg];exact Bk.new _ _ _
 have HT:=lh (ht.below hb0);have HX:=lh hx;have HB0:=lh hb0;have HK0:=lh hk0;have a26:cl W g 26 (iv x.answer.machine):=(hk0.cell 26).trans (by rw[HM.o];rfl);have ka26:=cell_regrown a26;have HSZ:Hid (M.toList.length=39):=lh (by rw[Array.length_toList,HM.o];rfl);have z1:(trT x).size≤43:=qn9 HX.o.2.2.1 HX.o.2.2.2.1;have z3:(dec x.answer.machine).size≤21:=qc9 _ HX.o.2.2.2.2.2.2.2.2.2.1.1.1 HX.o.2.2.2.2.2.2.2.2.2.1.1.2;have t1:¬ 9223372036854775807 < 1+(trT x).size:=by omega
 have t2:¬ 9223372036854775807 < 1+(trT x).size+9:=by omega
 have t3:¬ 9223372036854775807 < 1+(trT x).size+9+(dec x.answer.machine).size:=by omega
 have k1:=fun dd os=>Calls.regrown_of (w:=W) (d:=dd) (os:=os) (f:=91) ((show Calls Tryz.prog 91 #[.agg M] (grow (redrawn W dd) os) (TxP (grow (redrawn W dd) os) (trT x)) by rw[HM.o];exact qm4 HX.o.2.2.1 HX.o.2.2.2.1 (HT.o.below (below_regrown W dd os))));have k3:=fun dd os=>Calls.regrown_of (w:=W) (d:=dd) (os:=os) (f:=83) (qh3 x.answer.machine HX.o.2.2.2.2.2.2.2.2.2.1.1.1 HX.o.2.2.2.2.2.2.2.2.2.1.1.2 _ (HT.o.below (below_regrown W dd os)));clear hb0 hk0 hM ht hx hl1 hl2
 go_enter Tryz.func95,Tryz.ntmps95
 go_upto_region 1 with fail
 rw[← hW,← hg];clear hW hg;clear a26;refine wp_region_quiet_below (by kernel_rfl) (by kernel_rfl) ?_
 repeat (first | (refine qi2 rfl _ _ rfl g 0 rfl M _ HK0.o.rgr rfl rfl (by rw[HSZ.o];rfl) ?_) | quiet_step (first | exact k1 _ _ | exact k3 _ _))
 refine wpQuiet_nil ?_;intro w3 hw';have HB3:=lh (HB0.o.trans ((qf3 hw').mono HB0.o.size));clear hw' k1 k3 ka26
 go_wp2_with fail
 go_ret;exact⟨rfl,HB3.o⟩
theorem Txt10 {w:World} {x:Ms} {r:List Value} (h:MsI w x r) (hx:msP x) (ht:Tb w):Calls Tryz.prog 99 #[.agg r.toArray] w (TxP w (⟨#[32]⟩++trT x++⟨#[32,109,97,99,104,105,110,101,32]⟩++dec x.claim.machine)):=by
 obtain⟨A1,c1,A2,c2,A3,c3,A4,c4,A5,c5,A6,c6,A7,c7,A8,c8,hr,hl1,hl2,hl3,hl4,hl5,hl6,hl7,hl8⟩:=h
 obtain⟨M,hM⟩:∃ M,M=r.toArray:=⟨_,rfl⟩
 rw[← hM];rw[hr] at hM;clear hr hl3 hl4 hl5 hl6 hl7 hl8;have HM:=lh hM
 obtain⟨W,hW⟩:∃ W,W=w.alloc (.cells M 42):=⟨_,rfl⟩
 obtain⟨g,hg⟩:∃ g,g=w.heap.size:=⟨_,rfl⟩
 have hb0:bw w W:=by rw[hW];exact qa2 _ _
 have hk0:Bk W g 42 M:=by rw[hW,hg];exact Bk.new _ _ _
 have HT:=lh (ht.below hb0);have HX:=lh hx;have HB0:=lh hb0;have HK0:=lh hk0;have a34:cl W g 34 (iv x.claim.machine):=(hk0.cell 34).trans (by rw[HM.o];rfl);have ka34:=cell_regrown a34;have HSZ:Hid (M.toList.length=39):=lh (by rw[Array.length_toList,HM.o];rfl);have z1:(trT x).size≤43:=qn9 HX.o.2.2.1 HX.o.2.2.2.1;have z3:(dec x.claim.machine).size≤21:=qc9 _ HX.o.2.2.2.2.2.2.2.2.2.2.1.1 HX.o.2.2.2.2.2.2.2.2.2.2.1.2;have t1:¬ 9223372036854775807 < 1+(trT x).size:=by omega
 have t2:¬ 9223372036854775807 < 1+(trT x).size+9:=by omega
 have t3:¬ 9223372036854775807 < 1+(trT x).size+9+(dec x.claim.machine).size:=by omega
 have k1:=fun dd os=>Calls.regrown_of (w:=W) (d:=dd) (os:=os) (f:=91) ((show Calls Tryz.prog 91 #[.agg M] (grow (redrawn W dd) os) (TxP (grow (redrawn W dd) os) (trT x)) by rw[HM.o];exact qm4 HX.o.2.2.1 HX.o.2.2.2.1 (HT.o.below (below_regrown W dd os))));have k3:=fun dd os=>Calls.regrown_of (w:=W) (d:=dd) (os:=os) (f:=83) (qh3 x.claim.machine HX.o.2.2.2.2.2.2.2.2.2.2.1.1 HX.o.2.2.2.2.2.2.2.2.2.2.1.2 _ (HT.o.below (below_regrown W dd os)));clear hb0 hk0 hM ht hx hl1 hl2
 go_enter Tryz.func99,Tryz.ntmps99
 go_upto_region 1 with fail
 rw[← hW,← hg];clear hW hg;clear a34;refine wp_region_quiet_below (by kernel_rfl) (by kernel_rfl) ?_
 repeat (first | (refine qi2 rfl _ _ rfl g 0 rfl M _ HK0.o.rgr rfl rfl (by rw[HSZ.o];rfl) ?_) | quiet_step (first | exact k1 _ _ | exact k3 _ _))
 refine wpQuiet_nil ?_;intro w3 hw';have HB3:=lh (HB0.o.trans ((qf3 hw').mono HB0.o.size));clear hw' k1 k3 ka34
 go_wp2_with fail
 go_ret;exact⟨rfl,HB3.o⟩
theorem Txt11 {w:World} {x:Ms} {r:List Value} (h:MsI w x r) (hx:msP x) (ht:Tb w):Calls Tryz.prog 150 #[.agg r.toArray] w (TxP w (⟨#[32]⟩++trT x)):=by
 obtain⟨A1,c1,A2,c2,A3,c3,A4,c4,A5,c5,A6,c6,A7,c7,A8,c8,hr,hl1,hl2,hl3,hl4,hl5,hl6,hl7,hl8⟩:=h
 obtain⟨M,hM⟩:∃ M,M=r.toArray:=⟨_,rfl⟩
 rw[← hM];rw[hr] at hM;clear hr hl3 hl4 hl5 hl6 hl7 hl8;have HM:=lh hM
 obtain⟨W,hW⟩:∃ W,W=w.alloc (.cells M 42):=⟨_,rfl⟩
 obtain⟨g,hg⟩:∃ g,g=w.heap.size:=⟨_,rfl⟩
 have hb0:bw w W:=by rw[hW];exact qa2 _ _
 have hk0:Bk W g 42 M:=by rw[hW,hg];exact Bk.new _ _ _
 have HT:=lh (ht.below hb0);have HX:=lh hx;have HB0:=lh hb0;have HK0:=lh hk0;have HSZ:Hid (M.toList.length=39):=lh (by rw[Array.length_toList,HM.o];rfl);have z1:(trT x).size≤43:=qn9 HX.o.2.2.1 HX.o.2.2.2.1;have t1:¬ 9223372036854775807 < 1+(trT x).size:=by omega
 have k1:Calls Tryz.prog 91 _ W _:=(show Calls Tryz.prog 91 #[.agg M] W (TxP W (trT x)) by rw[HM.o];exact qm4 HX.o.2.2.1 HX.o.2.2.2.1 HT.o)
 clear hb0 hk0 hM ht hx hl1 hl2
 go_enter Tryz.func150,Tryz.ntmps150
 go_upto_region 1 with fail
 rw[← hW,← hg];clear hW hg;refine wp_region_list ?_;refine wpList_load_mid rfl _ _ rfl g 0 rfl M.toList _ HK0.o.rng rfl rfl (by rw[HSZ.o];rfl) ?_;simp only[Array.toArray_toList]
 go_wp2_with fail
 refine k1.mono ?_;rintro e w2 ⟨rfl,hb2⟩;have HB2:=lh (HB0.o.trans (hb2.mono HB0.o.size));clear hb2
 go_wp2_with fail
 go_ret;exact⟨rfl,HB2.o⟩
theorem Txt17 {w:World} {x:Ms} {r:List Value} (h:MsI w x r) (hx:msP x) (ht:Tb w):Calls Tryz.prog 104 #[.agg r.toArray] w (TxP w (⟨#[32]⟩++x.name++⟨#[32]⟩++rfT x.ref)):=by
 obtain⟨A1,c1,A2,c2,A3,c3,A4,c4,A5,c5,A6,c6,A7,c7,A8,c8,hr,hl1,hl2,hl3,hl4,hl5,hl6,hl7,hl8⟩:=h
 obtain⟨M,hM⟩:∃ M,M=r.toArray:=⟨_,rfl⟩
 rw[← hM];rw[hr] at hM;clear hr hl3 hl4 hl5 hl6 hl7 hl8;have HM:=lh hM
 obtain⟨W,hW⟩:∃ W,W=w.alloc (.cells M 42):=⟨_,rfl⟩
 obtain⟨g,hg⟩:∃ g,g=w.heap.size:=⟨_,rfl⟩
 have hb0:bw w W:=by rw[hW];exact qa2 _ _
 have hk0:Bk W g 42 M:=by rw[hW,hg];exact Bk.new _ _ _
 have HT:=lh (ht.below hb0);have HX:=lh hx;have HB0:=lh hb0;have HK0:=lh hk0;have a3:cl W g 3 (.string x.name):=(hk0.cell 3).trans (by rw[HM.o];rfl);have ka3:=cell_regrown a3;have a4:cl W g 4 (iv x.ref.kind):=(hk0.cell 4).trans (by rw[HM.o];rfl);have ka4:=cell_regrown a4;have a5:cl W g 5 (iv x.ref.int):=(hk0.cell 5).trans (by rw[HM.o];rfl);have ka5:=cell_regrown a5;have a6:cl W g 6 (iv x.ref.owner):=(hk0.cell 6).trans (by rw[HM.o];rfl);have ka6:=cell_regrown a6;have a7:cl W g 7 (uv x.ref.number):=(hk0.cell 7).trans (by rw[HM.o];rfl);have ka7:=cell_regrown a7;have a8:cl W g 8 (iv x.ref.idm):=(hk0.cell 8).trans (by rw[HM.o];rfl);have ka8:=cell_regrown a8;have a9:cl W g 9 (iv x.ref.ids):=(hk0.cell 9).trans (by rw[HM.o];rfl);have ka9:=cell_regrown a9;have a10:cl W g 10 (iv x.ref.cls):=(hk0.cell 10).trans (by rw[HM.o];rfl);have ka10:=cell_regrown a10;have a11:cl W g 11 (.bool x.ref.weak):=(hk0.cell 11).trans (by rw[HM.o];rfl);have ka11:=cell_regrown a11;have z1:x.name.size≤4096:=by have:(x.name.size:Int)≤4096:=HX.o.2.2.2.2.2.1;omega
 have z3:(rfT x.ref).size≤97:=qq8 HX.o.2.2.2.2.2.2.1;have t1:¬ 9223372036854775807 < 1+(x.name).size:=by omega
 have t2:¬ 9223372036854775807 < 1+(x.name).size+1:=by omega
 have t3:¬ 9223372036854775807 < 1+(x.name).size+1+(rfT x.ref).size:=by omega
 have k3:=fun dd os=>Calls.regrown_of (w:=W) (d:=dd) (os:=os) (f:=105) (qn6 (x:=x.ref) HX.o.2.2.2.2.2.2.1 _ (HT.o.below (below_regrown W dd os)));clear hb0 hk0 hM ht hx hl1 hl2
 go_enter Tryz.func104,Tryz.ntmps104
 go_upto_region 1 with fail
 rw[← hW,← hg];clear hW hg;clear a3 a4 a5 a6 a7 a8 a9 a10 a11;refine wp_region_quiet_below (by kernel_rfl) (by kernel_rfl) ?_
 repeat (first | quiet_step (first | exact k3 _ _))
 refine wpQuiet_nil ?_;intro w3 hw';have HB3:=lh (HB0.o.trans ((qf3 hw').mono HB0.o.size));clear hw' k3 ka3 ka4 ka5 ka6 ka7 ka8 ka9 ka10 ka11
 go_wp2_with fail
 go_ret;exact⟨rfl,HB3.o⟩
theorem Txt15 {w:World} {x:Ms} {r:List Value} (h:MsI w x r) (hx:msP x) (ht:Tb w):Calls Tryz.prog 153 #[.agg r.toArray] w (TxP w ⟨#[]⟩):=by
 obtain⟨M,hM⟩:∃ M,M=r.toArray:=⟨_,rfl⟩
 rw[← hM];clear hM h hx ht
 go_enter Tryz.func153,Tryz.ntmps153
 go_wp2_with fail
 go_ret;exact⟨rfl,qa2 _ _⟩
end
section
open Go.RowKit Go.Sort
attribute [local go_sem] Oper.semAt_some
def txK (k:Nat) (x:Ms):ByteArray :=
 match k with
 | 0=>⟨#[32]⟩++dec x.number++⟨#[32]⟩++idT x.letter.idm x.letter.ids++⟨#[32]⟩++x.letter.meth++lsT x.letter.args
 | 1=>⟨#[32]⟩++dec x.parcel.number++⟨#[32]⟩++idT x.parcel.idm x.parcel.ids++⟨#[32,99,108,97,115,115,32]⟩++dec x.parcel.cls++⟨#[32]⟩++lsT x.parcel.fields
 | 2=>⟨#[32]⟩++dec x.number++⟨#[32,102,111,114,32]⟩++dec x.asker
 | 3=>⟨#[32]⟩++dec x.number++⟨#[32,102,111,114,32]⟩++dec x.asker
 | 4=>⟨#[32]⟩++rfT x.ref
 | 5=>⟨#[32]⟩++dec x.number
 | 6=>⟨#[32]⟩++dec x.number++⟨#[32,102,111,114,32]⟩++dec x.asker
 | 7=>⟨#[32]⟩++rfT x.ref
 | 8=>⟨#[32]⟩++trT x++⟨#[32]⟩++dec x.number++⟨#[32,111,102,32]⟩++dec x.asker
 | 9=>⟨#[32]⟩++trT x++⟨#[32,109,97,99,104,105,110,101,32]⟩++dec x.answer.machine
 | 10=>⟨#[32]⟩++trT x++⟨#[32,109,97,99,104,105,110,101,32]⟩++dec x.claim.machine
 | 11=>⟨#[32]⟩++trT x
 | 12=>⟨#[32]⟩++trT x
 | 13=>⟨#[32]⟩++trT x
 | 14=>⟨#[32]⟩++trT x
 | 15=>⟨#[]⟩
 | 16=>⟨#[]⟩
 | 17=>⟨#[32]⟩++x.name++⟨#[32]⟩++rfT x.ref
 | _=>⟨#[]⟩
theorem Tx_any {w:World} {x:Ms} {r:List Value} (h:MsI w x r) (hx:msP x) (ht:Tb w) {k:Nat} (hk:k < 18):Calls Tryz.prog (kC k) #[.agg r.toArray] w (TxP w (txK k x)):=by
 rcases (show k=0 ∨ k=1 ∨ k=2 ∨ k=3 ∨ k=4 ∨ k=5 ∨ k=6 ∨ k=7 ∨ k=8 ∨ k=9 ∨ k=10 ∨ k=11 ∨ k=12 ∨ k=13 ∨ k=14 ∨ k=15 ∨ k=16 ∨ k=17 by omega) with rfl | rfl | rfl | rfl | rfl | rfl | rfl | rfl | rfl | rfl | rfl | rfl | rfl | rfl | rfl | rfl | rfl | rfl
 ·exact Txt0 h hx ht
 ·exact Txt1 h hx ht
 ·exact Txt2 h hx ht
 ·exact Txt2 h hx ht
 ·exact Txt4 h hx ht
 ·exact Txt5 h hx ht
 ·exact Txt2 h hx ht
 ·exact Txt4 h hx ht
 ·exact Txt8 h hx ht
 ·exact Txt9 h hx ht
 ·exact Txt10 h hx ht
 ·exact Txt11 h hx ht
 ·exact Txt11 h hx ht
 ·exact Txt11 h hx ht
 ·exact Txt11 h hx ht
 ·exact Txt15 h hx ht
 ·exact Txt15 h hx ht
 ·exact Txt17 h hx ht
theorem callC {k:Nat} (hk:k < 18) (args:Array Value) (w:World):Sem.run Tryz.prog (callFunc (kC k) args) w=.ok (.enter (kC k) args) w:=by
 rcases (show k=0 ∨ k=1 ∨ k=2 ∨ k=3 ∨ k=4 ∨ k=5 ∨ k=6 ∨ k=7 ∨ k=8 ∨ k=9 ∨ k=10 ∨ k=11 ∨ k=12 ∨ k=13 ∨ k=14 ∨ k=15 ∨ k=16 ∨ k=17 by omega) with rfl | rfl | rfl | rfl | rfl | rfl | rfl | rfl | rfl | rfl | rfl | rfl | rfl | rfl | rfl | rfl | rfl | rfl <;> rfl
theorem txK_size {x:Ms} (h:msP x) (k:Nat):(txK k x).size≤120000:=by
 obtain⟨h1,h2,h3,h4,h5,h6,h7,h8,h9,h10,h11⟩:=h;have a1:=qf6 h5.1 h5.2;have a2:=qm1 h8.1 h8.2.1;have a3:x.letter.meth.size≤4096:=by have:(x.letter.meth.size:Int)≤4096:=h8.2.2.1;omega
 have a4:=lsT_le (by have:=h8.2.2.2.1;omega) h8.2.2.2.2;have a5:=qf6 h9.1.1 h9.1.2;have a6:=qm1 h9.2.1 h9.2.2.1;have a7:=qc9 x.parcel.cls h9.2.2.2.2.1.1 h9.2.2.2.2.1.2;have a8:=lsT_le (by have:=h9.2.2.2.2.2.1.1;omega) h9.2.2.2.2.2.1.2;have a9:=qc9 x.asker h2.1 h2.2;have b1:=qq8 h7;have b2:=qn9 (x:=x) h3 h4;have b3:=qc9 x.answer.machine h10.1.1 h10.1.2;have b4:=qc9 x.claim.machine h11.1.1 h11.1.2;have b5:x.name.size≤4096:=by have:(x.name.size:Int)≤4096:=h6;omega
 have c:∀ a:Array UInt8,(⟨a⟩:ByteArray).size=a.size:=fun a=>rfl;unfold txK;have d1:(⟨#[32]⟩:ByteArray).size=1:=rfl;have d2:(⟨#[32,99,108,97,115,115,32]⟩:ByteArray).size=7:=rfl;have d3:(⟨#[32,102,111,114,32]⟩:ByteArray).size=5:=rfl;have d4:(⟨#[32,111,102,32]⟩:ByteArray).size=4:=rfl;have d5:(⟨#[32,109,97,99,104,105,110,101,32]⟩:ByteArray).size=9:=rfl;have d6:(⟨#[]⟩:ByteArray).size=0:=rfl
 split <;> simp only[ByteArray.size_append,d1,d2,d3,d4,d5,d6] <;> omega
theorem kS_size {k:Nat} (hk:k < 18):(kS k).size≤8:=by
 rcases (show k=0 ∨ k=1 ∨ k=2 ∨ k=3 ∨ k=4 ∨ k=5 ∨ k=6 ∨ k=7 ∨ k=8 ∨ k=9 ∨ k=10 ∨ k=11 ∨ k=12 ∨ k=13 ∨ k=14 ∨ k=15 ∨ k=16 ∨ k=17 by omega) with rfl | rfl | rfl | rfl | rfl | rfl | rfl | rfl | rfl | rfl | rfl | rfl | rfl | rfl | rfl | rfl | rfl | rfl <;> decide
def fmtV (x:Ms):ByteArray:=if msV x=true then kS x.kind.toNat++txK x.kind.toNat x else ⟨#[105,110,118,97,108,105,100]⟩
theorem Format_any {w:World} {x:Ms} {r:List Value} (h:MsI w x r) (hx:msP x) (hl:(qe2 x).length≤2147483648) (ht:Tb w):Calls Tryz.prog 18 #[.agg r.toArray] w (TxP w (fmtV x)):=by
 have hsz:r.toArray.toList.length=39:=h.len;have hkd:=h.kind
 obtain⟨M,hM⟩:∃ M,M=r.toArray:=⟨_,rfl⟩
 rw[← hM] at hsz hkd ⊢;have HSZ:=lh hsz;have HKD:=lh hkd;have HM:=lh hM
 obtain⟨W,hW⟩:∃ W,W=w.alloc (.cells M 42):=⟨_,rfl⟩
 obtain⟨g,hg⟩:∃ g,g=w.heap.size:=⟨_,rfl⟩
 have hb0:bw w W:=by rw[hW];exact qa2 _ _
 have hk0:Bk W g 42 M:=by rw[hW,hg];exact Bk.new _ _ _
 have HB0:=lh hb0;have HK0:=lh hk0;have HT:=lh (ht.below hb0);have cV:Calls Tryz.prog 12 #[.agg M] W (qe5 W (msV x)):=by rw[HM.o];exact qo8 (h.below hb0) hx hl
 have H:=lh (And.intro h (And.intro hx hl))
 obtain⟨T,hT⟩:∃ T,T=fmtV x:=⟨_,rfl⟩
 rw[← hT];unfold fmtV at hT;clear hb0 hk0 hM h hx hl hsz hkd ht
 go_enter Tryz.func18,Tryz.ntmps18
 go_upto_region 1 with fail
 rw[← hW,← hg];clear hW hg;refine wp_region_list ?_;refine wpList_load_mid rfl _ _ rfl g 0 rfl M.toList _ HK0.o.rng rfl rfl (by rw[HSZ.o];rfl) ?_;simp only[Array.toArray_toList]
 cases hv:msV x with
 | false =>
  rw[hv] at cV hT;have HTE:Hid (T=⟨#[105,110,118,97,108,105,100]⟩):=lh hT;clear hT hv
  go_wp2_with fail
  refine cV.mono ?_;rintro e w2 ⟨rfl,hb2⟩;have HB2:=lh (HB0.o.trans (hb2.mono HB0.o.size));clear cV hb2
  go_wp2_with fail
  go_ret;rw[HTE.o];exact⟨rfl,HB2.o⟩
 | true =>
  rw[hv,if_pos rfl] at hT;rw[hv] at cV
  obtain⟨k,hk⟩:∃ k:Nat,k=x.kind.toNat:=⟨_,rfl⟩
  have hkk:x.kind=k∧k < 18:=by
   unfold msV at hv;have:=hv;simp only[Bool.and_eq_true,decide_eq_true_eq] at this
   omega
  rw[← hk] at hT;have HTE:=lh hT;have HK:=lh hkk;clear hT hv hk hkk
  go_wp2_with fail
  refine cV.mono ?_;rintro e w2 ⟨rfl,hb2⟩;have HB2:=lh (HB0.o.trans (hb2.mono HB0.o.size));have HK2:=lh (HK0.o.below hb2 HK0.o.lt);have HT2:=lh (HT.o.below hb2);have a0:cl w2 g 0 (iv (k:Int)):=(HK2.o.cell 0).trans (by rw[← HK.o.1];exact HKD.o);have cF:=find_in w2 HK.o.2;unfold kV at cF;clear cV hb2
  go_upto_region 4 with (go_at_call 26;refine cF.mono ?_;rintro e w3 ⟨rfl,hb3⟩)
  have HB3:=lh (HB2.o.trans (hb3.mono HB2.o.size));have HK3:=lh (HK2.o.below hb3 HK2.o.lt);have HT3:=lh (HT2.o.below hb3)
  obtain⟨w4,hw4⟩:∃ w4,w4=w3.alloc (.cells #[.string (kS k),.func (.func (kA k)) #[] #[],.func (.func (kB k)) #[] #[],.func (.func (kC k)) #[] #[]] 68):=⟨_,rfl⟩
  obtain⟨b4,hb4⟩:∃ b4,b4=w3.heap.size:=⟨_,rfl⟩
  have hB4:bw w3 w4:=by rw[hw4];exact qa2 _ _
  have hq4:Bk w4 b4 68 #[.string (kS k),.func (.func (kA k)) #[] #[],.func (.func (kB k)) #[] #[],.func (.func (kC k)) #[] #[]]:=by rw[hw4,hb4];exact Bk.new _ _ _
  have HB4:=lh (HB3.o.trans (hB4.mono HB3.o.size));have HK4:=lh (HK3.o.below hB4 HK3.o.lt);have HT4:=lh (HT3.o.below hB4);have f0:=cell_regrown (hq4.cell 0);have f3:=cell_regrown (hq4.cell 3);have hcc:=fun args w=>callC HK.o.2 args w;have kc:∀ dd os,Calls Tryz.prog (kC k) #[.agg M] (grow (redrawn w4 dd) os) fun e w'=>e=.returned (.string (txK k x))∧∃ p:Regrown,w'=grow (redrawn w4 p.d) p.os:=fun dd os=>Calls.regrown_of (w:=w4) (d:=dd) (os:=os) (by rw[HM.o];exact Tx_any (H.o.1.below (HB4.o.trans ((below_regrown w4 dd os).mono HB4.o.size))) H.o.2.1 (HT4.o.below (below_regrown w4 dd os)) HK.o.2);have z1:=txK_size H.o.2.1 k;have z2:=kS_size HK.o.2;have t1:¬ 9223372036854775807 < (kS k).size+(txK k x).size:=by omega
  rw[← hw4,← hb4];clear hw4 hb4 hB4 hq4 hb3 cF a0;refine wp_region_quiet_below (by kernel_rfl) (by kernel_rfl) ?_
  repeat (first | (refine qi2 rfl _ _ rfl g 0 rfl M _ HK4.o.rgr rfl rfl (by rw[HSZ.o];rfl) ?_) | quiet_step (exact kc _ _))
  refine wpQuiet_nil ?_;intro w5 hw';have HB5:=lh (HB4.o.trans ((qf3 hw').mono HB4.o.size));clear hw' kc f0 f3
  go_wp2_with fail
  go_ret;rw[HTE.o];exact⟨rfl,HB5.o⟩
end
section
open Go.RowKit
theorem qu2 {s:ByteArray} (h:sP s):(qj7 s).length≤4105:=by
 have h1:(s.size:Int)≤4096:=h;have h2:=qh1 (n:=(s.size:Int)) (by omega);unfold qj7;rw[List.length_append];have h3:(bts s).length=s.size:=by simp[bts]
 omega
theorem qh6 {α:Type} {f:α→List Int} {l:List α} {P:α→Prop} (h:lP P l) (b:Nat) (hb:∀ x,P x→(f x).length≤b):(qc3 f l).length≤9+b*1024:=by
 have h1:=qh1 (n:=(l.length:Int)) (by have:=h.1;omega)
 have h2:∀ k:List α,(∀ x∈k,P x)→(k.flatMap f).length≤b*k.length:=fun k=>by
  induction k with
  | nil=>intro _;simp
  | cons x r ih =>
   intro hk;have:=ih fun y hy=>hk y (List.mem_cons_of_mem _ hy);have:=hb x (hk x (List.mem_cons_self ..));rw[List.flatMap_cons,List.length_append,List.length_cons,Nat.mul_succ]
   omega
 have h3:=h2 l h.2;have h4:b*l.length≤b*1024:=Nat.mul_le_mul_left b (by have:=h.1;omega);unfold qc3;rw[List.length_append]
 omega
theorem encLt_len {x:Lt} (h:ltP x):(qc5 x).length≤69668:=by
 have h1:=qb5 h.1;have h2:=qb5 h.2.1;have h3:=qu2 h.2.2.1;have h4:=qh6 (f:=qb9) h.2.2.2 64 fun x hx=>qo2 hx;unfold qc5;simp only[List.length_append]
 omega
theorem encWa_len {x:Wa} (h:waP x):(qe1 x).length≤4196:=by
 have h1:=qb5 h.1;have h2:=qb5 h.2.1;have h3:=qu2 h.2.2.1;have h4:=qb5 h.2.2.2.1;have h5:=qo2 h.2.2.2.2;unfold qe1;simp only[List.length_append]
 omega
theorem encPc_len {x:Pc} (h:pcP x):(qg8 x).length≤75702344:=by
 have h1:=qh1 h.1.2;have h2:=qb5 h.2.1;have h3:=qb5 h.2.2.1;have h4:=qb5 h.2.2.2.1;have h5:=qb5 h.2.2.2.2.1;have h6:=qh6 (f:=qb9) h.2.2.2.2.2.1 64 fun x hx=>qo2 hx;have h7:=qh6 (f:=qc5) h.2.2.2.2.2.2.1 69668 fun x hx=>encLt_len hx;have h8:=qh6 (f:=qe1) h.2.2.2.2.2.2.2 4196 fun x hx=>encWa_len hx;unfold qg8;simp only[List.length_append]
 omega
theorem encAn_len {x:An} (h:anP x):(qg7 x).length≤27704:=by
 have h1:=qb5 h.1;have h2:=qb5 h.2.1;have h3:=qb5 h.2.2.1;have h4:=qb5 h.2.2.2.1;have h5:=qh1 h.2.2.2.2.1.2;have h6:=qo5 x.known;have h7:=qo5 x.rooted
 have h8:=qh6 (f:=qe0) h.2.2.2.2.2 27 fun(y:In) (hy:inP y)=>by
  have a:=qb5 hy.1;have b:=qb5 hy.2.1;have c:=qh1 hy.2.2.2
  show(qe0 y).length≤27
  unfold qe0;simp only[List.length_append]
  omega
 unfold qg7;simp only[List.length_append]
 omega
theorem qu3 {y:Nd} (hy:ndP y):(qd1 y).length≤27:=by
 have a:=qb5 hy.1;have b:=qb5 hy.2.1;have c:=qh1 hy.2.2.2;unfold qd1;simp only[List.length_append]
 omega
theorem encCl_len {x:Cl} (h:clP x):(qg5 x).length≤82989:=by
 have h1:=qb5 h.1;have h2:=qb5 h.2.1;have h3:=qh6 (f:=qd1) h.2.2.1 27 fun x hx=>qu3 hx;have h4:=qh6 (f:=qd1) h.2.2.2.1 27 fun x hx=>qu3 hx;have h5:=qh6 (f:=qd1) h.2.2.2.2 27 fun x hx=>qu3 hx;unfold qg5;simp only[List.length_append]
 omega
theorem encMs_len {x:Ms} (h:msP x):(qe2 x).length≤80000000:=by
 obtain⟨h1,h2,h3,h4,h5,h6,h7,h8,h9,h10,h11⟩:=h;have a1:=qb5 h1;have a2:=qb5 h2;have a3:=qb5 h3;have a4:=qb5 h4;have a5:=qh1 h5.2;have a6:=qu2 h6;have a7:=qo2 h7;have a8:=encLt_len h8;have a9:=encPc_len h9;have b1:=encAn_len h10;have b2:=encCl_len h11;unfold qe2;simp only[List.length_append]
 omega
theorem qj1 {α:Type} {f:α→List Int} {l:List α} {P:α→Prop} (h:lP P l) (hb:∀ x,P x→B8 (f x)):B8 (qc3 f l):=by
 refine(qk5 (by have:=h.1;omega)).app ?_;intro y hy;obtain⟨x,hx,hy⟩:=List.mem_flatMap.1 hy;exact hb x (h.2 x hx) y hy
theorem qc0 {n:Int} (h:I64 n):B8 (qb6 n):=qk5 (zz_rg h).2
theorem encS_b8R {s:ByteArray} (h:sP s):B8 (qj7 s):=(qk5 (by have:(s.size:Int)≤4096:=h;omega)).app (bts_b8 s)
theorem encB_b8R (x:Bool):B8 (qj8 x):=by cases x <;> exact B8.one (by decide) (by decide)
theorem qr3 {x:Rf} (h:rfP x):B8 (qb9 x) :=
 ((((((qc0 h.1).app (qc0 h.2.1)).app (qc0 h.2.2.1)).app (qc0 h.2.2.2.1)).app (qk5 h.2.2.2.2.1.2)).app ((qc0 h.2.2.2.2.2.1).app (qc0 h.2.2.2.2.2.2))).app (encB_b8R _)
theorem encLt_b8 {x:Lt} (h:ltP x):B8 (qc5 x):=(((qc0 h.1).app (qc0 h.2.1)).app (encS_b8R h.2.2.1)).app (qj1 h.2.2.2 fun x hx=>qr3 hx)
theorem encWa_b8 {x:Wa} (h:waP x):B8 (qe1 x):=((((qc0 h.1).app (qc0 h.2.1)).app (encS_b8R h.2.2.1)).app (qc0 h.2.2.2.1)).app (qr3 h.2.2.2.2)
theorem encPc_b8 {x:Pc} (h:pcP x):B8 (qg8 x) :=
 (((((qk5 h.1.2).app ((qc0 h.2.1).app (qc0 h.2.2.1))).app ((qc0 h.2.2.2.1).app (qc0 h.2.2.2.2.1))).app (qj1 h.2.2.2.2.2.1 fun x hx=>qr3 hx)).app (qj1 h.2.2.2.2.2.2.1 fun x hx=>encLt_b8 hx)).app (qj1 h.2.2.2.2.2.2.2 fun x hx=>encWa_b8 hx)
theorem encIn_b8 {x:In} (h:inP x):B8 (qe0 x):=((qc0 h.1).app (qc0 h.2.1)).app (qk5 h.2.2.2)
theorem encNd_b8 {x:Nd} (h:ndP x):B8 (qd1 x):=((qc0 h.1).app (qc0 h.2.1)).app (qk5 h.2.2.2)
theorem encAn_b8 {x:An} (h:anP x):B8 (qg7 x) :=
 ((((((qc0 h.1).app (qc0 h.2.1)).app (qc0 h.2.2.1)).app (qc0 h.2.2.2.1)).app (qk5 h.2.2.2.2.1.2)).app (encB_b8R _)).app (encB_b8R _) |>.app (qj1 h.2.2.2.2.2 fun x hx=>encIn_b8 hx)
theorem encCl_b8 {x:Cl} (h:clP x):B8 (qg5 x) :=
 ((((qc0 h.1).app (qc0 h.2.1)).app (qj1 h.2.2.1 fun x hx=>encNd_b8 hx)).app (qj1 h.2.2.2.1 fun x hx=>encNd_b8 hx)).app (qj1 h.2.2.2.2 fun x hx=>encNd_b8 hx)
theorem encMs_b8 {x:Ms} (h:msP x):B8 (qe2 x):=by
 obtain⟨h1,h2,h3,h4,h5,h6,h7,h8,h9,h10,h11⟩:=h;exact((((((((((qc0 h1).app (qc0 h2)).app (qc0 h3)).app (qc0 h4)).app (qk5 h5.2)).app (encS_b8R h6)).app (qr3 h7)).app (encLt_b8 h8)).app (encPc_b8 h9)).app (encAn_b8 h10)).app (encCl_b8 h11)
end
section
open Go.RowKit Go.Sort
attribute [local go_sem] Oper.semAt_some
def args0:List Rf:=[⟨0,0,0,0,0,0,0,false⟩,⟨1,5,0,0,0,0,0,false⟩,⟨3,0,2,9,1,4,0,false⟩]
def x0:Ms:={ Ms.zero with number:=7,letter:=⟨1,3,⟨#[104,105,116]⟩,args0⟩ }
def row0M (b1:Nat):Array Value:=#[iv 0,uv 7,iv 0,.string ⟨#[]⟩,iv 0,iv 0,iv 0,uv 0,iv 0,iv 0,iv 0,bf,iv 1,iv 3,.string ⟨#[104,105,116]⟩,.slice (some ⟨b1,0,none⟩) 3 3,uv 0,iv 0,iv 0,iv 0,iv 0,sn,sn,sn,iv 0,iv 0,iv 0,iv 0,uv 0,iv 0,bf,bf,iv 0,sn,iv 0,iv 0,sn,sn,sn]
theorem x0_p:msP x0:=by
 obtain⟨zp,zi,zs,zr,zl,zc,za,zq⟩:=zero_p;have i:∀ n:Int,0≤n→n≤100→I64 n:=fun n h1 h2=>by unfold I64;omega
 refine⟨zi,zi,zi,zi,by show P64 7;unfold P64;omega,zs,zr,⟨i 1 (by omega) (by omega),i 3 (by omega) (by omega),by show sP ⟨#[104,105,116]⟩;unfold sP;decide,?_⟩,zc,za,zq⟩
 show lP rfP args0
 refine⟨by decide,fun x hx=>?_⟩;have:x=⟨0,0,0,0,0,0,0,false⟩ ∨ x=⟨1,5,0,0,0,0,0,false⟩ ∨ x=⟨3,0,2,9,1,4,0,false⟩:=by simpa [args0] using hx
 rcases this with rfl | rfl | rfl <;> refine⟨i _ ?_ ?_,i _ ?_ ?_,i _ ?_ ?_,i _ ?_ ?_,?_,i _ ?_ ?_,i _ ?_ ?_⟩ <;> first | decide | (show P64 _;unfold P64;decide)
theorem x0_v:msV x0=true:=by decide
theorem dms_enc {x:Ms} (h:msP x) (hv:msV x=true):dms (qe2 x)=(x,0):=by
 have:=codMs.fw x [] h;rw[List.append_nil] at this;unfold dms;rw[this]
 simp[hv]
theorem qn4 {n:Nat} (h:n < 10):dec (n:Int)=⟨#[UInt8.ofNat (48+n)]⟩:=by rw[← dec_nat,Lib.decDigits_one h]
theorem x0_t:fmtV x0=⟨#[100,101,108,105,118,101,114,32,55,32,109,49,58,51,32,104,105,116,40,110,105,108,44,32,53,44,32,111,117,116,32,50,47,57,32,109,49,58,52,41]⟩:=by
 unfold fmtV;rw[x0_v,if_pos rfl];have e1:dec 1=⟨#[49]⟩:=qn4 (n:=1) (by omega);have e2:dec 2=⟨#[50]⟩:=qn4 (n:=2) (by omega);have e3:dec 3=⟨#[51]⟩:=qn4 (n:=3) (by omega);have e4:dec 4=⟨#[52]⟩:=qn4 (n:=4) (by omega);have e5:dec 5=⟨#[53]⟩:=qn4 (n:=5) (by omega);have e7:dec 7=⟨#[55]⟩:=qn4 (n:=7) (by omega);have e9:dec 9=⟨#[57]⟩:=qn4 (n:=9) (by omega);have i1:idT 1 3=⟨#[109,49,58,51]⟩:=by unfold idT;rw[if_pos (by decide),e1,e3];rfl
 have i2:idT 1 4=⟨#[109,49,58,52]⟩:=by unfold idT;rw[if_pos (by decide),e1,e4];rfl
 have r0:rfT ⟨0,0,0,0,0,0,0,false⟩=⟨#[110,105,108]⟩:=rfl;have r1:rfT ⟨1,5,0,0,0,0,0,false⟩=⟨#[53]⟩:=by show dec 5=_;exact e5
 have r2:rfT ⟨3,0,2,9,1,4,0,false⟩=⟨#[111,117,116,32,50,47,57,32,109,49,58,52]⟩:=by
  show⟨#[111,117,116,32]⟩++dec 2++⟨#[47]⟩++dec 9++⟨#[32]⟩++idT 1 4=_
  rw[e2,e9,i2];rfl
 show kS 0++(⟨#[32]⟩++dec 7++⟨#[32]⟩++idT 1 3++⟨#[32]⟩++⟨#[104,105,116]⟩++lsT args0)=_
 have l0:lsT args0=⟨#[40,110,105,108,44,32,53,44,32,111,117,116,32,50,47,57,32,109,49,58,52,41]⟩:=by
  unfold lsT args0;rw[List.map_cons,List.map_cons,List.map_cons,List.map_nil,r0,r1,r2]
  rfl
 rw[e7,i1,l0]
 rfl
theorem x0_len:(qe2 x0).length≤2147483648∧0 < (qe2 x0).length:=by
 have h1:=encMs_len x0_p;have h2:=qc4 x0.kind;refine⟨by omega,?_⟩;unfold qe2;simp only[List.length_append]
 omega
theorem row0_in {w:World} {b1:Nat} (h:Bk w b1 26 #[iv 0,iv 0,iv 0,uv 0,iv 0,iv 0,iv 0,bf,iv 1,iv 5,iv 0,uv 0,iv 0,iv 0,iv 0,bf,iv 3,iv 0,iv 2,uv 9,iv 1,iv 4,iv 0,bf]):MsI w x0 (row0M b1).toList:=by
 refine⟨some ⟨b1,0,none⟩,3,none,0,none,0,none,0,none,0,none,0,none,0,none,0,rfl,?_,LsR.tnil,LsR.tnil,LsR.tnil,LsR.tnil,LsR.tnil,LsR.tnil,LsR.tnil⟩;unfold LsR;rw[if_pos rfl];refine⟨by decide,by decide,.inr ⟨b1,0,rfl,h.lt,fun i x hx=>?_⟩⟩;have hi:i < 3:=(List.getElem?_eq_some_iff.1 hx).1;rcases (show i=0 ∨ i=1 ∨ i=2 by omega) with rfl | rfl | rfl <;> cases hx <;> refine⟨_,rfl,rfl,fun j v hv=>⟨?_,h.free _⟩⟩ <;> (have hj:j < 8:=(List.getElem?_eq_some_iff.1 hv).1) <;> rw[h.cell] <;> rcases (show j=0 ∨ j=1 ∨ j=2 ∨ j=3 ∨ j=4 ∨ j=5 ∨ j=6 ∨ j=7 by omega) with rfl | rfl | rfl | rfl | rfl | rfl | rfl | rfl <;> exact hv
theorem awake27 (w:World) (ht:Tb w):Calls Tryz.prog 10 #[] w (qe5 w true):=by
 obtain⟨w1,hw1⟩:∃ w1,w1=w.alloc (.cells #[iv 0,iv 0,iv 0,uv 0,iv 0,iv 0,iv 0,bf,iv 1,iv 5,iv 0,uv 0,iv 0,iv 0,iv 0,bf,iv 3,iv 0,iv 2,uv 9,iv 1,iv 4,iv 0,bf] 26):=⟨_,rfl⟩
 obtain⟨b1,hb1⟩:∃ b1,b1=w.heap.size:=⟨_,rfl⟩
 have hB1:bw w w1:=by rw[hw1];exact qa2 _ _
 have hq1:Bk w1 b1 26 #[iv 0,iv 0,iv 0,uv 0,iv 0,iv 0,iv 0,bf,iv 1,iv 5,iv 0,uv 0,iv 0,iv 0,iv 0,bf,iv 3,iv 0,iv 2,uv 9,iv 1,iv 4,iv 0,bf]:=by rw[hw1,hb1];exact Bk.new _ _ _
 have HB1:=lh hB1;have HQ1:=lh hq1;have HT:=lh ht;clear hB1 hq1 ht
 go_enter Tryz.func10,Tryz.ntmps10
 go_upto_region 2 with fail
 rw[← hw1,← hb1];clear hw1 hb1;refine wp_region_list ?_
 go_upto_region 3 with (first | (refine wpList_build rfl _ _ rfl (by kernel_rfl) ?_) | (refine qf8 rfl _ _ _ rfl w1.heap.size (row0M b1) (by kernel_rfl) (by kernel_rfl) _ _ (heap_alloc_new w1 _) (by kernel_rfl) (by kernel_rfl) (by kernel_rfl) ?_;intro w2 hk2 hp2) | fail)
 have hmi:=row0_in (HQ1.o.below (show bw w1 w2 from hp2.toBelow (qa2 _ _) (by simp) fun j e=>by omega) HQ1.o.lt);have hb2:bw w1 w2:=hp2.toBelow (qa2 _ _) (by simp) fun j e=>by omega
 obtain⟨g2,hg2⟩:∃ g2,g2=w1.heap.size:=⟨_,rfl⟩
 rw[← hg2] at hk2 ⊢
 obtain⟨M,hM⟩:∃ M,M=row0M b1:=⟨_,rfl⟩
 obtain⟨r,hr⟩:∃ r,r=(row0M b1).toList:=⟨_,rfl⟩
 rw[← hM] at hk2;rw[← hr] at hmi;have hMr:M=r.toArray:=by rw[hM,hr]
 have HSZ:Hid (M.toList.length=39):=lh (by rw[hM];rfl);have HM:=lh hMr;have HI2:=lh hmi;have HK2:=lh hk2;have HB2:=lh (HB1.o.trans (hb2.mono HB1.o.size));have HT2:=lh (HT.o.below HB2.o)
 obtain⟨l,hl⟩:∃ l,l=qe2 x0:=⟨_,rfl⟩
 have HL:Hid (l.length≤2147483648∧B8 l∧dms l=(x0,0)):=lh (by rw[hl];exact⟨x0_len.1,encMs_b8 x0_p,dms_enc x0_p x0_v⟩);have hll:0 < l.length:=by rw[hl];exact x0_len.2
 have cE:Calls Tryz.prog 13 #[.agg M] w2 fun e w'=>∃ v,e=.returned (.tuple #[v,iv 0])∧w'.ownsRow w2.heap.size 5 1 v l.length (qh2 l)∧bw w2 w':=by
  have:=Encode_any HI2.o x0_p x0_len.1;rw[x0_v,if_pos rfl,if_pos rfl,← hl,← HM.o] at this;exact this
 clear hmi hk2 hp2 hb2 hg2 hM hr hMr hl;refine wp_region_list ?_;refine wpList_load_mid rfl _ _ rfl g2 0 rfl M.toList _ HK2.o.rng rfl rfl (by rw[HSZ.o];rfl) ?_;simp only[Array.toArray_toList]
 go_upto_region 4 with (go_at_call 13;refine cE.mono ?_;rintro e w3 ⟨v3,rfl,ho3,hb3⟩)
 obtain⟨A3,c3,rfl,_⟩:=qb4 ho3;have HB3:=lh (HB2.o.trans (hb3.mono HB2.o.size));have HK3:=lh (HK2.o.below hb3 HK2.o.lt);have HI3:=lh (HI2.o.below hb3);have HT3:=lh (HT2.o.below hb3);have cD:=Decode_any (c:=c3) (own_sl ho3) (own_le ho3) HL.o.2.1 HL.o.1;rw[HL.o.2.2] at cD;clear cE ho3 hb3;refine wp_region_list ?_
 go_wp2_with fail
 refine cD.mono ?_;rintro e w4 ⟨r4,rfl,hi4,hb4⟩;have hq4:r4.toArray.toList.length=39:=hi4.len
 obtain⟨N4,hN⟩:∃ N4,N4=r4.toArray:=⟨_,rfl⟩
 rw[← hN] at hq4 ⊢;have hq5:N4.size=39:=by rw[Array.length_toList] at hq4;exact hq4
 have h1c:N4.all (·.oneCell')=true:=by rw[hN];exact msOne hi4
 have HN:=lh hN;have HN4:=lh hq4;have HS4:=lh hq5;have HC4:=lh h1c;have HI4:=lh hi4;have HB34:=lh hb4;have HB4:=lh (HB3.o.trans (hb4.mono HB3.o.size));clear hi4 hq4 hq5 h1c hN hb4 cD
 go_upto_region 5 with (first | (refine qf8 (P:=Tryz.prog) rfl 42 _ _ rfl w4.heap.size N4 rfl rfl _ _ (heap_alloc_new w4 _) (by rw[HS4.o];rfl) (by rw[HS4.o];rfl) HC4.o ?_;intro w5 hk5 hp5) | fail)
 have hb5:bw w4 w5:=hp5.toBelow (qa2 _ _) (by simp) fun j e=>by omega
 have HB5:=lh (HB4.o.trans (hb5.mono HB4.o.size));have HK5:=lh hk5;have HKM5:=lh ((HK3.o.below HB34.o HK3.o.lt).below hb5 (Nat.lt_of_lt_of_le HK3.o.lt HB34.o.size));have HI5:=lh ((HI3.o.below HB34.o).below hb5);have HX5:=lh (HI4.o.below hb5);have HT5:=lh ((HT3.o.below HB34.o).below hb5)
 obtain⟨g5,hg5⟩:∃ g5,g5=w4.heap.size:=⟨_,rfl⟩
 rw[← hg5] at HK5 ⊢
 have cS:Calls Tryz.prog 14 #[.agg N4,.agg M] w5 (qe5 w5 true):=by
  have:=Same_any HX5.o HI5.o;rw[decide_eq_true rfl,← HN.o,← HM.o] at this;exact this
 have h0l:(0:Int) < (l.length:Int):=by omega
 clear hk5 hp5 hb5 hg5
 go_wp2_with (first | (refine qb0 rfl _ _ rfl g5 0 rfl N4.toList _ HK5.o.rng rfl rfl (by rw[HN4.o];rfl) ?_;simp only[Array.toArray_toList]) | (refine qb0 rfl _ _ rfl g2 0 rfl M.toList _ HKM5.o.rng rfl rfl (by rw[HSZ.o];rfl) ?_;simp only[Array.toArray_toList]) | fail)
 refine cS.mono ?_;rintro e w6 ⟨rfl,hb6⟩;have HB6:=lh (HB5.o.trans (hb6.mono HB5.o.size));have HKM6:=lh (HKM5.o.below hb6 HKM5.o.lt)
 have cF:Calls Tryz.prog 18 #[.agg M] w6 (TxP w6 ⟨#[100,101,108,105,118,101,114,32,55,32,109,49,58,51,32,104,105,116,40,110,105,108,44,32,53,44,32,111,117,116,32,50,47,57,32,109,49,58,52,41]⟩):=by
  have:=Format_any (HI5.o.below hb6) x0_p x0_len.1 (HT5.o.below hb6);rw[x0_t,← HM.o] at this;exact this
 clear cS hb6
 go_wp2_with (first | (refine qb0 rfl _ _ rfl g2 0 rfl M.toList _ HKM6.o.rng rfl rfl (by rw[HSZ.o];rfl) ?_;simp only[Array.toArray_toList]) | fail)
 refine cF.mono ?_;rintro e w7 ⟨rfl,hb7⟩;have HB7:=lh (HB6.o.trans (hb7.mono HB6.o.size));clear cF hb7
 go_wp2_with fail
 go_ret;exact⟨rfl,HB7.o⟩
end
section
open Go.RowKit Go.Sort
attribute [local go_sem] Oper.semAt_some
theorem encMs_le {x:Ms} (h:msP x):(qe2 x).length≤2147483648:=Nat.le_trans (encMs_len h) (by decide)
section
variable {w:World} {l:List Int} {A:Option Addr} {c:Nat}
end
end
section
open Go.RowKit Go.Sort
attribute [local go_sem] Oper.semAt_some
def ltT (x:Lt):Prop:=I64 x.idm∧I64 x.ids∧∀ y∈x.args,rfP y
def waT (x:Wa):Prop:=I64 x.idm∧I64 x.ids∧I64 x.key∧rfP x.tgt
def pcT (x:Pc):Prop:=P64 x.number∧I64 x.idm∧I64 x.ids∧I64 x.kind∧I64 x.cls∧(∀ y∈x.fields,rfP y)∧(∀ y∈x.mail,ltT y)∧∀ y∈x.watches,waT y
def anT (x:An):Prop:=I64 x.machine∧I64 x.owner∧I64 x.epoch∧I64 x.last∧P64 x.number∧∀ y∈x.inset,inP y
def clT (x:Cl):Prop:=I64 x.machine∧I64 x.epoch∧(∀ y∈x.stubs,ndP y)∧(∀ y∈x.scions,ndP y)∧∀ y∈x.checks,ndP y
def msT (x:Ms):Prop:=I64 x.kind∧I64 x.asker∧I64 x.tm∧I64 x.ts∧P64 x.number∧rfP x.ref∧ltT x.letter∧pcT x.parcel∧anT x.answer∧clT x.claim
theorem few_p {x:Ms} (h:msT x) (hf:fewV x=true):msP x:=by
 unfold fewV at hf;simp only[Bool.and_eq_true,decide_eq_true_eq,List.all_eq_true] at hf;obtain⟨⟨⟨⟨⟨⟨⟨⟨⟨f1,f2⟩,f3⟩,f4⟩,f5⟩,f6⟩,f7⟩,f8⟩,f9⟩,fa⟩:=hf;obtain⟨h1,h2,h3,h4,h5,h6,h7,h8,h9,h10⟩:=h;have s:∀ {b:ByteArray},b.size≤100→sP b:=fun h=>by unfold sP;omega
 have l:∀ {α:Type} {P:α→Prop} {k:List α},k.length≤1024→(∀ y∈k,P y)→lP P k:=fun h1 h2=>⟨by omega,h2⟩
 have hl:∀ y:Lt,ltT y→qt9 y=true→ltP y:=fun y hy hf=>by
  unfold qt9 at hf;simp only[Bool.and_eq_true,decide_eq_true_eq] at hf;exact⟨hy.1,hy.2.1,s hf.2,l (by omega) hy.2.2⟩
 have hw:∀ y:Wa,waT y→fewWa y=true→waP y:=fun y hy hf=>by
  unfold fewWa at hf;simp only[decide_eq_true_eq] at hf;exact⟨hy.1,hy.2.1,s hf,hy.2.2.1,hy.2.2.2⟩
 exact⟨h1,h2,h3,h4,h5,s f1,h6,⟨h7.1,h7.2.1,s f2,l (by omega) h7.2.2⟩,
  ⟨h8.1,h8.2.1,h8.2.2.1,h8.2.2.2.1,h8.2.2.2.2.1,l (by omega) h8.2.2.2.2.2.1,l (by omega) fun y hy=>hl y (h8.2.2.2.2.2.2.1 y hy) (f9 y hy),l (by omega) fun y hy=>hw y (h8.2.2.2.2.2.2.2 y hy) (fa y hy)⟩,
  ⟨h9.1,h9.2.1,h9.2.2.1,h9.2.2.2.1,h9.2.2.2.2.1,l (by omega) h9.2.2.2.2.2⟩,⟨h10.1,h10.2.1,l (by omega) h10.2.2.1,l (by omega) h10.2.2.2.1,l (by omega) h10.2.2.2.2⟩⟩
end
section
open Go.RowKit Go.Sort
attribute [local go_sem] Oper.semAt_some
def ql8 (l:List Rf):List Value:=(l.map rfC).flatten
theorem qd4 (a b:List Rf):ql8 (a++b)=ql8 a++ql8 b:=by unfold ql8;rw[List.map_append,List.flatten_append]
theorem rfsC_one (x:Rf):ql8 [x]=rfC x:=by unfold ql8;simp
theorem rfsC_len (l:List Rf):(ql8 l).length=l.length*8:=by
 induction l with
 | nil=>rfl
 | cons x r ih =>
  have:ql8 (x::r)=rfC x++ql8 r:=rfl;rw[this,List.length_append,ih,List.length_cons]
  show 8+r.length*8=_
  omega
theorem rfsC_get {l:List Rf} {k:Nat} {x:Rf} (h:l[k]?=some x) {j:Nat} (hj:j < 8):(ql8 l)[k*8+j]?=(rfC x)[j]?:=by
 refine flat_get (s:=8) (l.map rfC) (fun r hr=>?_) k (rfC x) (by rw[List.getElem?_map,h];rfl) j hj;obtain⟨y,_,rfl⟩:=List.mem_map.1 hr
 rfl
theorem rfsC_at {l:List Rf} {j:Nat} {u:Value} (h:(ql8 l)[j]?=some u):∃ k i x,j=k*8+i∧i < 8∧l[k]?=some x∧(rfC x)[i]?=some u:=by
 have hj:j < l.length*8:=by
  have:=(List.getElem?_eq_some_iff.1 h).1;rw[rfsC_len] at this;exact this
 have hk:j / 8 < l.length:=by omega
 refine⟨j / 8,j % 8,l[j / 8],by omega,by omega,List.getElem?_eq_getElem hk,?_⟩;rw[← rfsC_get (List.getElem?_eq_getElem hk) (show j % 8 < 8 by omega),← h]
 congr 1
 omega
theorem rfC_one (x:Rf):∀ u∈rfC x,u.oneCell'=true:=by
 intro u hu;simp only[rfC,List.mem_cons,List.not_mem_nil,or_false] at hu;rcases hu with rfl | rfl | rfl | rfl | rfl | rfl | rfl | rfl <;> rfl
theorem rfsC_oneC (l:List Rf):∀ u∈ql8 l,u.oneCell'=true:=by
 intro u hu;obtain⟨r,hr,h⟩:=List.mem_flatten.1 hu;obtain⟨x,_,rfl⟩:=List.mem_map.1 hr;exact rfC_one x u h
theorem LsI.rfs {w:World} {b o c:Nat} {l:List Rf} (h:LsI (qa6 rfC) 26 8 w (some ⟨b,o,none⟩) c l):∀ j u,(ql8 l)[j]?=some u→w.cell? ((⟨b,o,none⟩:Addr).add j)=some u:=by
 intro j u hu;obtain⟨k,i,x,rfl,hi,hx,hv⟩:=rfsC_at hu;obtain⟨b',o',r,hA,_,hr,hc⟩:=h.get hx
 injection hA with hA
 injection hA with h1 h2
 subst h1 h2;have hr':r=rfC x:=hr;have:=hc i u (by rw[hr'];exact hv);rw[Addr.add_mid,← Nat.add_assoc];exact this
theorem LsI.addr {w:World} {A:Option Addr} {c:Nat} {l:List Rf} (h:LsI (qa6 rfC) 26 8 w A c l):l=[] ∨ ∃ b o,A=some ⟨b,o,none⟩:=by
 unfold LsI LsR at h;rw[if_pos rfl] at h;rcases h.2.2 with h0 | ⟨b,o,h1,_⟩
 ·exact .inl (List.eq_nil_of_length_eq_zero h0)
 ·exact .inr ⟨b,o,h1⟩
theorem qn2 {w:World} {base c:Nat} {A:Option Addr} {l:List Rf} (h:w.ownsRow base 26 8 (.slice A l.length c) l.length (ql8 l)) (hle:l.length≤140737488351232):LsI (qa6 rfC) 26 8 w A c l:=by
 unfold LsI LsR;rw[if_pos rfl];rcases h.2 with ⟨hv,h0⟩ | ⟨g,cap,cur,hv,_,hg,hnc,hcm,hcs,htk⟩
 ·injection hv with h1 h2 h3
  exact⟨by omega,hle,.inl h0⟩
 ·injection hv with h1 h2 h3
  subst h1 h3;refine⟨hnc,hle,.inr ⟨g,0,rfl,(Array.getElem?_eq_some_iff.1 hg).1,fun i x hx=>⟨rfC x,rfl,rfl,fun j v hv=>?_⟩⟩⟩;have hj:j < 8:=(List.getElem?_eq_some_iff.1 hv).1;have hc:=h.cells (g:=g) rfl (i*8+j) v (by rw[rfsC_get hx hj];exact hv);rw[Addr.add_mid] at hc;refine⟨by rw[Nat.add_assoc];exact hc,?_⟩
  simp[World.frozen?,hg]
theorem i_rfT:(Tryz.prog.info? 26).map (fun i=>(i.zero,i.size,i.bytes))=some (some (.agg #[iv 0,iv 0,iv 0,uv 0,iv 0,iv 0,iv 0,bf]),8,64):=by kernel_rfl
theorem run_app_rfs (w:World) {base:Nat} {v:Value} {n ty:Nat} {xs:List Value} (hown:w.ownsRow base 26 8 v n xs) {A:Option Addr} {c:Nat} {l:List Rf} (hl:LsI (qa6 rfC) 26 8 w A c l) (hn:n+l.length≤4194304) (hb:base≤w.heap.size) :
  ∃ v' w',(Builtin.append_ #[27,27] ty #[v,.slice A l.length c]).run Tryz.prog w=.ok v' w'∧w'.ownsRow base 26 8 v' (n+l.length) (xs++ql8 l)∧w.grownBy w' v.ownBlock:=by
 obtain⟨i0,hi,hz0,hz1,hz2⟩:=info_parts i_rfT
 have own:∀ ad,A=some ad→(∀ j u,(ql8 l)[j]?=some u→w.cell? (ad.add j)=some u)→∃ v' w',(Builtin.append_ #[27,27] ty #[v,.slice A l.length c]).run Tryz.prog w=.ok v' w'∧w'.ownsRow base 26 8 v' (n+l.length) (xs++ql8 l)∧w.grownBy w' v.ownBlock:=fun ad hA hc=>by
  subst hA;obtain⟨v',w',h1,h2,h3,_⟩:=run_append_own (P:=Tryz.prog) w base 27 ty 26 i0 _ 8 64 Tryz.underlying27 hi hz0 hz1 hz2 (by rfl) (by omega) v n xs hown ad l.length c (ql8 l) (rfsC_len l) hc (rfsC_oneC l) (by unfold maxLen;omega) (by omega) hb;exact⟨v',w',h1,h2,h3⟩
 rcases hl.addr with h0 | ⟨b,o,hA⟩
 ·subst h0;rcases A with _ | ad
  ·refine⟨v,w,?_,by simpa [ql8] using hown,World.grownBy.refl w _⟩;rcases hown.2 with ⟨rfl,rfl⟩ | ⟨g,cap,cur,rfl,_,_,hnc,_⟩
   ·simp[Builtin.append_,run_underlying Tryz.underlying27,sizeOf,typeInfo,hi,Builtin.lenOf,Builtin.firstCells]
   ·simp[Builtin.append_,run_underlying Tryz.underlying27,sizeOf,typeInfo,hi,Builtin.lenOf,Builtin.firstCells,hnc,storeCells]
  ·exact own ad rfl fun j u hu=>by cases hu
 ·exact own _ hA (by subst hA;exact hl.rfs)
theorem qc1 {w:World} {ops:Array Oper} {rest:List Oper} {o:Oper} {a:Act} {Q:Exit→Act→World→Prop} (hgd:o.guard=none) (s x:Operand)
  (ho:o.op=.call { callee:=.builtin .append,args:=#[s,x],argTypes:=#[27,27] })
  (base:Nat) (v:Value) (n:Nat) (xs:List Value) (hs:a.eval s=v) (hown:w.ownsRow base 26 8 v n xs) (A:Option Addr) (c:Nat) (l:List Rf) (hx:a.eval x=.slice A l.length c)
  (hl:LsI (qa6 rfC) 26 8 w A c l) (hn:n+l.length≤4194304) (hb:base≤w.heap.size)
  (h:∀ v' w',w'.ownsRow base 26 8 v' (n+l.length) (xs++ql8 l)→w.grownBy w' v.ownBlock→wpList Tryz.prog ops Q rest (a.put o.dst v') w'):wpList Tryz.prog ops Q (o::rest) a w :=
 wpList_plain hgd fun K hK=>by
  obtain⟨v',w',hr,h2,h3⟩:=run_app_rfs (ty:=o.type) w hown hl hn hb;unfold Oper.wp execOp;simp only[ho,resolve,invoke,builtin,Sem.run_bind,Sem.run_pure,Result.andThen_ok,List.map_toArray,List.map_cons,List.map_nil,hs,hx,hr];exact hK _ _ (h v' w' h2 h3)
theorem qp6 (w:World) (x:Rf):LsI (qa6 rfC) 26 8 (w.alloc (.cells #[iv x.kind,iv x.int,iv x.owner,uv x.number,iv x.idm,iv x.ids,iv x.cls,.bool x.weak] 26)) (some ⟨w.heap.size,0,none⟩) 1 [x]:=by
 refine qn2 (base:=0) ⟨by rw[rfsC_len],.inr ⟨w.heap.size,1,_,rfl,Nat.zero_le _,heap_alloc_new w _,Nat.le_refl _,by unfold maxLen;omega,rfl,?_⟩⟩ (by simp);rw[rfsC_one]
 rfl
/-- the references of a message -/
def qs3 (x:Ms) (k:Nat):List Rf:=x.letter.args++x.parcel.fields++(x.parcel.mail.take k).flatMap (·.args)
def qq4 (x:Ms) (k:Nat):List Rf:=qs3 x x.parcel.mail.length++(x.parcel.watches.take k).map (·.tgt)
def rfsV (x:Ms):List Rf:=if msV x=true then qq4 x x.parcel.watches.length++(if x.ref.kind=0 then [] else [x.ref]) else []
theorem qs2 (x:Ms):qs3 x 0=x.letter.args++x.parcel.fields:=by unfold qs3;simp
theorem qo0 {x:Ms} {k:Nat} {y:Lt} (h:x.parcel.mail[k]?=some y):qs3 x (k+1)=qs3 x k++y.args:=by
 unfold qs3;rw[List.take_add_one,h]
 simp
theorem rfsB_zero (x:Ms):qq4 x 0=qs3 x x.parcel.mail.length:=by unfold qq4;simp
theorem rfsB_succ {x:Ms} {k:Nat} {y:Wa} (h:x.parcel.watches[k]?=some y):qq4 x (k+1)=qq4 x k++[y.tgt]:=by
 unfold qq4;rw[List.take_add_one,h]
 simp
theorem fm_le (l:List Lt) (h:∀ y∈l,y.args.length≤1024):(l.flatMap (·.args)).length≤1024*l.length:=by
 induction l with
 | nil=>simp
 | cons y r ih =>
  have h1:=h y (List.mem_cons_self ..);have h2:=ih fun z hz=>h z (List.mem_cons_of_mem _ hz);rw[List.flatMap_cons,List.length_append,List.length_cons]
  omega
theorem rfsA_len {x:Ms} (h:msP x) (k:Nat):(qs3 x k).length≤1050624:=by
 obtain⟨h1,h2,h3,h4,h5,h6,h7,h8,h9,h10,h11⟩:=h;have a1:x.letter.args.length≤1024:=by have:=h8.2.2.2.1;omega
 have a2:x.parcel.fields.length≤1024:=by have:=h9.2.2.2.2.2.1.1;omega
 have a3:x.parcel.mail.length≤1024:=by have:=h9.2.2.2.2.2.2.1.1;omega
 have a4:=fm_le (x.parcel.mail.take k) fun y hy=>by
  have:=(h9.2.2.2.2.2.2.1.2 y (List.mem_of_mem_take hy)).2.2.2.1
  omega
 have a5:(x.parcel.mail.take k).length≤1024:=by rw[List.length_take];omega
 unfold qs3;rw[List.length_append,List.length_append]
 omega
theorem qq7 {x:Ms} (h:msP x) (k:Nat):(qq4 x k).length≤1051648:=by
 have h1:=rfsA_len h x.parcel.mail.length
 have h2:x.parcel.watches.length≤1024:=by
  obtain⟨_,_,_,_,_,_,_,_,h9,_,_⟩:=h;have:=h9.2.2.2.2.2.2.2.1
  omega
 unfold qq4;rw[List.length_append,List.length_map,List.length_take]
 omega
def RfsP (w:World) (l:List Rf) (e:Ending) (w':World):Prop:=∃ A c,e=.returned (.slice A l.length c)∧LsI (qa6 rfC) 26 8 w' A c l∧bw w w'
end
section
open Go.RowKit Go.Sort
attribute [local go_sem] Oper.semAt_some
def OwnP (w:World) (l:List Rf) (e:Ending) (w':World):Prop:=∃ A c,e=.returned (.slice A l.length c)∧w'.ownsRow w.heap.size 26 8 (.slice A l.length c) l.length (ql8 l)∧bw w w'
theorem grow_zeros (w:World) (ty:TypeId) {n:Nat} (h0:0 < n) (hn:n≤4194304):∃ (cap:Nat) (w':World),(Builtin.append_ #[27,3] ty #[sn,iv n]).run Tryz.prog w=.ok (.slice (some ⟨w.heap.size,0,none⟩) n cap) w'∧w'.ownsRow w.heap.size 26 8 (.slice (some ⟨w.heap.size,0,none⟩) 0 cap) 0 []∧bw w w'∧n≤cap∧cap≤maxLen:=by
 obtain⟨i0,hi,hz0,hz1,hz2⟩:=info_parts i_rfT;have h:=Lib.run_append_nil_zeros w 27 3 ty 26 i0 _ .i64 .i64 Tryz.underlying27 Tryz.underlying3 hi hz0 n h0 (by omega) (by omega) (by rw[hz2];omega);have h1:n≤grownCap w n 0 26:=grownCap_ge w _ _ _;have h2:grownCap w n 0 26≤maxLen:=grownCap_le_maxLen w n 0 _ (by unfold maxLen;omega);refine⟨_,_,h,⟨rfl,.inr ⟨w.heap.size,_,_,rfl,Nat.le_refl _,heap_alloc_new w.drew _,Nat.zero_le _,h2,?_,by simp⟩⟩,(Below.refl _ _).drew.alloc (Nat.le_refl _) _,h1,h2⟩;rw[Array.size_append,size_zeroCells,size_zeroCells]
 show n*8+(grownCap w n 0 26 - n)*8=grownCap w n 0 26*8
 omega
theorem GrowR_any {n:Nat} (hn:n≤4194304) (w:World):Calls Tryz.prog 71 #[sn,iv n] w (OwnP w []):=by
 rcases Nat.eq_zero_or_pos n with h0 | h0
 ·subst h0;have H:Hid (w.ownsRow w.heap.size 26 8 (sn) 0 []):=lh (World.ownsRow_nil _ _ _ _);have HB:Hid (bw w w):=lh (Below.refl _ _)
  go_enter Tryz.func71,Tryz.ntmps71
  go_wp2_with fail
  go_ret;exact⟨none,0,rfl,H.o,HB.o⟩
 ·have hg:∀ ty,∃ (cap:Nat) (w':World),(Builtin.append_ #[27,3] ty #[sn,iv n]).run Tryz.prog w=.ok (.slice (some ⟨w.heap.size,0,none⟩) n cap) w'∧w'.ownsRow w.heap.size 26 8 (.slice (some ⟨w.heap.size,0,none⟩) 0 cap) 0 []∧bw w w'∧n≤cap∧cap≤maxLen:=fun ty=>grow_zeros w ty h0 hn;obtain⟨cap,w',hr,ho,hb,hc,hm⟩:=hg 27;have HO:=lh (And.intro ho hb);have hi0:¬ ((n:Int) < 0):=by omega
  have q1:decide ((n:Int) > 0)=true:=decide_eq_true (by omega);have q2:decide (0 < (n:Int))=true:=decide_eq_true (by omega);unfold maxLen at hm;clear hg ho hb hn
  go_enter Tryz.func71,Tryz.ntmps71
  go_wp2_with (at_builtin;refine Lib.wpList_append_run _ rfl _ _ _ _ rfl _ _ rfl rfl _ _ hr ?_)
  go_ret;exact⟨_,cap,rfl,HO.o.1,HO.o.2⟩
def cnL (l1 l2:List Rf) (k:Nat):List Rf:=if k=0 then [] else if k=1 then l1 else l1++l2
theorem Concat_any {A1 A2:Option Addr} {c1 c2:Nat} {l1 l2:List Rf} {w:World} {b:Nat} (hb:Bk w b 27 #[.slice A1 l1.length c1,.slice A2 l2.length c2]) (h1:LsI (qa6 rfC) 26 8 w A1 c1 l1) (h2:LsI (qa6 rfC) 26 8 w A2 c2 l2) (n1:l1.length≤1048576) (n2:l2.length≤1048576) :
  Calls Tryz.prog 46 #[.slice (some ⟨b,0,none⟩) 2 2] w (OwnP w (l1++l2)):=by
 have HK:=lh hb;have H1:=lh (And.intro h1 n1);have H2:=lh (And.intro h2 n2);have HBE:Hid (bw w w):=lh (Below.refl _ _);have HC:=lh (And.intro h1.le h2.le);clear hb h1 h2 n1 n2
 go_enter Tryz.func46,Tryz.ntmps46
 go_wp2_with fail
 go_loopw [3,11] (fun v ix wr=>∃ k:Nat,ix=iv (k:Int)∧k≤2∧v=iv ((cnL l1 l2 k).length:Int)∧wr=w) (fun _ ix _=>2 - (intOf ix).toNat)
 case atStart=>exact⟨0,rfl,by omega,rfl,rfl⟩
 case round =>
  obtain⟨k,rfl,hk,rfl,rfl⟩:=hrel
  rename World=>w
  have a0:cl w b 0 (.slice A1 l1.length c1):=HK.o.cell 0;have a1:cl w b 1 (.slice A2 l2.length c2):=HK.o.cell 1;have m1:=H1.o.2;have m2:=H2.o.2;have d1:=HC.o.1.1;have d2:=HC.o.2.1;rcases (show k=0 ∨ k=1 ∨ k=2 by omega) with rfl | rfl | rfl
  ·have e0:(cnL l1 l2 0).length=0:=rfl;have e1:Hid ((cnL l1 l2 1).length=l1.length):=lh rfl;have q1:decide ((l1.length:Int) < 0)=false:=decide_eq_false (by omega);have q2:decide (((0:Nat):Int)+(l1.length:Int) < 0)=false:=decide_eq_false (by omega);rw[e0];clear a1
   go_wp2_with fail
   go_roundw
   case rel=>exact⟨1,rfl,by omega,by rw[e1.out],trivial⟩
   case measure=>simp[intOf]
  ·have e0:(cnL l1 l2 1).length=l1.length:=rfl;have e1:Hid ((cnL l1 l2 2).length=l1.length+l2.length):=lh (List.length_append ..);have q1:decide ((l1.length:Int)+(l2.length:Int) < 0)=false:=decide_eq_false (by omega);rw[e0];clear a0
   go_wp2_with fail
   go_roundw
   case rel=>exact⟨2,rfl,by omega,by rw[e1.out];go_num,trivial⟩
   case measure=>simp[intOf]
  ·have e0:(cnL l1 l2 2).length=l1.length+l2.length:=List.length_append ..;rw[e0];have cG:=GrowR_any (n:=l1.length+l2.length) (by omega) w;clear a0 a1 e0
   go_wp2_with (go_at_call 71;refine cG.mono ?_;rintro e w1 ⟨A,c,rfl,ho,hb1⟩)
   have HO1:=lh ho;have HB1:=lh hb1;clear ho hb1 cG
   go_loopw [6,27] (fun v ix wr=>∃ k:Nat,ix=iv (k:Int)∧k≤2∧wr.ownsRow w.heap.size 26 8 v (cnL l1 l2 k).length (ql8 (cnL l1 l2 k))∧bw w wr) (fun _ ix _=>2 - (intOf ix).toNat)
   case atStart=>exact⟨0,rfl,by omega,HO1.o,HB1.o⟩
   case round =>
    obtain⟨k,rfl,hk,hown,hB⟩:=hrel;have HO:=lh hown;have HB:=lh hB;have HKr:=lh (HK.o.below hB HK.o.lt);clear hown hB;have a0:cl wr b 0 (.slice A1 l1.length c1):=HKr.o.cell 0;have a1:cl wr b 1 (.slice A2 l2.length c2):=HKr.o.cell 1;have L1:=lh (LsI.below H1.o.1 (qa1 rfC) (qa0 rfC) HB.o);have L2:=lh (LsI.below H2.o.1 (qa1 rfC) (qa0 rfC) HB.o);rcases (show k=0 ∨ k=1 ∨ k=2 by omega) with rfl | rfl | rfl
    ·clear a1
     go_wp2_with (at_builtin;refine qc1 rfl (.tmp 31) (.tmp 32) rfl w.heap.size _ _ _ rfl HO.o _ _ l1 rfl L1.o (by show 0+l1.length≤_;omega) HB.o.size ?_;intro v' w3 hown3 hg3;have HOWN3:=lh hown3;have HG3:=lh hg3;clear hown3 hg3)
     go_roundw
     case rel=>exact⟨1,rfl,by omega,by have:=HOWN3.o;rw[show(cnL l1 l2 0).length+l1.length=(cnL l1 l2 1).length from Nat.zero_add _,← qd4] at this;exact this,HB.o.grown HG3.o HB.o.size fun q hq=>(HO.o.lt q hq).1⟩
     case measure=>simp[intOf]
    ·clear a0
     go_wp2_with (at_builtin;refine qc1 rfl (.tmp 31) (.tmp 32) rfl w.heap.size _ _ _ rfl HO.o _ _ l2 rfl L2.o (by show l1.length+l2.length≤_;omega) HB.o.size ?_;intro v' w3 hown3 hg3;have HOWN3:=lh hown3;have HG3:=lh hg3;clear hown3 hg3)
     go_roundw
     case rel=>exact⟨2,rfl,by omega,by have:=HOWN3.o;rw[show(cnL l1 l2 1).length+l2.length=(cnL l1 l2 2).length from (List.length_append ..).symm,← qd4] at this;exact this,HB.o.grown HG3.o HB.o.size fun q hq=>(HO.o.lt q hq).1⟩
     case measure=>simp[intOf]
    ·clear a0 a1;obtain⟨A',c',hv,_⟩:=qb4 HO.o
     go_wp2_with fail
     go_ret;refine⟨A',c',by rw[hv];rfl,?_,HB.o⟩;have:=HO.o;rw[hv] at this;exact this
end
end Go.Proofs.YtmbnlccafcfbeaaGreatDoor
