/- Parts of the proof: RcTx5, RcTx6. -/
import Derived.Test.YtmbnlccafcfbeaaGreatDoorPeA
import Derived.Test.YtmbnlccafcfbeaaGreatDoorPe31
set_option linter.unusedVariables false
set_option linter.unusedSimpArgs false
set_option linter.unusedSectionVars false
set_option maxRecDepth 100000
namespace Go.Proofs.YtmbnlccafcfbeaaGreatDoor
section
open Go.RowKit Go.Sort
attribute [local go_sem] Oper.semAt_some
theorem wpQuiet_whole {P:Program} {ops:Array Oper} {C:World→Prop} {Q:Act→Prop} {o:Oper} {rest:List Oper} {a:Act} (hw:Region.wanted o (yielded ops a.tmps)=true) (ty:TypeId) (x:Operand) (ho:o.op=.load ty x) (b off:Nat) (hx:a.eval x=.pointer (some ⟨b,off,none⟩)) (A:Array Value) (d:TypeDesc) (hc:∀ w,C w→w.rangeAt b off A.toList) (hu:P.underlying ty=some d) (hd:d.isRow=true) (hi:(P.info? ty).map (·.size)=some A.toList.length) (h:wpQuiet P ops C Q rest (a.put o.dst (.agg A))):wpQuiet P ops C Q (o::rest) a:=by
 unfold wpQuiet
 rw[if_pos hw]
 refine⟨.agg A,fun w hw'=>?_,h⟩
 unfold Oper.quietAt execOp
 simp only[ho,hx,Instr.loadAt,Instr.sureAddr,Sem.run_bind,Sem.run_pure,Result.andThen_ok,run_loadVar_mid w b off ty A.toList d (hc w hw') hu hd hi]
 exact⟨rfl,by simp⟩
theorem Bk.rgr {w:World} {g:Nat} {t:TypeId} {M:Array Value} (h:Bk w g t M):∀ w',(∃ p:Regrown,w'=grow (redrawn w p.d) p.os)→w'.rangeAt g 0 M.toList:=fun w' hw'=>(h.below (quiet_one hw') h.lt).rng
theorem lsT_le {l:List Rf} (hl:l.length≤1024) (h:∀ x∈l,rfP x):(lsT l).size≤101378:=by
 have:=lsT_size hl h
 unfold lsT
 simp only[ByteArray.size_append]
 show 1+(jn (l.map rfT)).size+1≤_
 omega
def trT (x:Ms):ByteArray:=dec x.tm++⟨#[47]⟩++dec x.ts
theorem trT_size {x:Ms} (h1:I64 x.tm) (h2:I64 x.ts):(trT x).size≤43:=by
 have:=dec_size x.tm h1.1 h1.2
 have:=dec_size x.ts h2.1 h2.2
 unfold trT
 simp only[ByteArray.size_append]
 show(dec x.tm).size+1+(dec x.ts).size≤43
 omega
set_option maxHeartbeats 4000000 in
theorem TraceT_any {w:World} {x:Ms} {A1:Option Addr} {c1:Nat} {A2:Option Addr} {c2:Nat} {A3:Option Addr} {c3:Nat} {A4:Option Addr} {c4:Nat} {A5:Option Addr} {c5:Nat} {A6:Option Addr} {c6:Nat} {A7:Option Addr} {c7:Nat} {A8:Option Addr} {c8:Nat} (h1:I64 x.tm) (h2:I64 x.ts) (ht:Tb w):Calls Tryz.prog 91 #[.agg #[.int .i64 x.kind,.int .u64 x.number,.int .i64 x.asker,.string x.name,.int .i64 x.ref.kind,.int .i64 x.ref.int,.int .i64 x.ref.owner,.int .u64 x.ref.number,.int .i64 x.ref.idm,.int .i64 x.ref.ids,.int .i64 x.ref.cls,.bool x.ref.weak,.int .i64 x.letter.idm,.int .i64 x.letter.ids,.string x.letter.meth,.slice A1 x.letter.args.length c1,.int .u64 x.parcel.number,.int .i64 x.parcel.idm,.int .i64 x.parcel.ids,.int .i64 x.parcel.kind,.int .i64 x.parcel.cls,.slice A2 x.parcel.fields.length c2,.slice A3 x.parcel.mail.length c3,.slice A4 x.parcel.watches.length c4,.int .i64 x.tm,.int .i64 x.ts,.int .i64 x.answer.machine,.int .i64 x.answer.owner,.int .u64 x.answer.number,.int .i64 x.answer.epoch,.bool x.answer.known,.bool x.answer.rooted,.int .i64 x.answer.last,.slice A5 x.answer.inset.length c5,.int .i64 x.claim.machine,.int .i64 x.claim.epoch,.slice A6 x.claim.stubs.length c6,.slice A7 x.claim.scions.length c7,.slice A8 x.claim.checks.length c8]] w (TxP w (trT x)):=by
 obtain⟨M,hM⟩:∃ M:Array Value,M=#[.int .i64 x.kind,.int .u64 x.number,.int .i64 x.asker,.string x.name,.int .i64 x.ref.kind,.int .i64 x.ref.int,.int .i64 x.ref.owner,.int .u64 x.ref.number,.int .i64 x.ref.idm,.int .i64 x.ref.ids,.int .i64 x.ref.cls,.bool x.ref.weak,.int .i64 x.letter.idm,.int .i64 x.letter.ids,.string x.letter.meth,.slice A1 x.letter.args.length c1,.int .u64 x.parcel.number,.int .i64 x.parcel.idm,.int .i64 x.parcel.ids,.int .i64 x.parcel.kind,.int .i64 x.parcel.cls,.slice A2 x.parcel.fields.length c2,.slice A3 x.parcel.mail.length c3,.slice A4 x.parcel.watches.length c4,.int .i64 x.tm,.int .i64 x.ts,.int .i64 x.answer.machine,.int .i64 x.answer.owner,.int .u64 x.answer.number,.int .i64 x.answer.epoch,.bool x.answer.known,.bool x.answer.rooted,.int .i64 x.answer.last,.slice A5 x.answer.inset.length c5,.int .i64 x.claim.machine,.int .i64 x.claim.epoch,.slice A6 x.claim.stubs.length c6,.slice A7 x.claim.scions.length c7,.slice A8 x.claim.checks.length c8]:=⟨_,rfl⟩
 rw[← hM]
 have HM:=lh hM
 obtain⟨W,hW⟩:∃ W,W=w.alloc (.cells M 42):=⟨_,rfl⟩
 obtain⟨g,hg⟩:∃ g,g=w.heap.size:=⟨_,rfl⟩
 have hb0:Below w.heap.size w W:=by rw[hW];exact below_one _ _
 have hk0:Bk W g 42 M:=by rw[hW,hg];exact Bk.new _ _ _
 have HB0:=lh hb0
 have a24:W.cell? ⟨g,24,none⟩=some (.int .i64 x.tm):=(hk0.cell 24).trans (by rw[HM.out];rfl)
 have a25:W.cell? ⟨g,25,none⟩=some (.int .i64 x.ts):=(hk0.cell 25).trans (by rw[HM.out];rfl)
 have ka24:=cell_regrown a24
 have ka25:=cell_regrown a25
 have HT:=lh (ht.below hb0)
 have z1:=dec_size x.tm h1.1 h1.2
 have z2:=dec_size x.ts h2.1 h2.2
 have t1:¬ 9223372036854775807 < (dec x.tm).size+1:=by omega
 have t2:¬ 9223372036854775807 < (dec x.tm).size+1+(dec x.ts).size:=by omega
 have k1:=fun dd os=>Calls.regrown_of (w:=W) (d:=dd) (os:=os) (Itoa_any x.tm h1.1 h1.2 _ (HT.out.below (below_regrown W dd os)))
 have k2:=fun dd os=>Calls.regrown_of (w:=W) (d:=dd) (os:=os) (Itoa_any x.ts h2.1 h2.2 _ (HT.out.below (below_regrown W dd os)))
 clear hb0 hk0 hM ht h1 h2
 go_enter Tryz.func91,Tryz.ntmps91
 go_upto_region 1 with fail
 rw[← hW,← hg]
 clear hW hg a24 a25
 refine wp_region_quiet_below (by kernel_rfl) (by kernel_rfl) ?_
 repeat (quiet_step (first | exact k1 _ _ | exact k2 _ _))
 refine wpQuiet_nil ?_
 intro w3 hw'
 have HB3:=lh (HB0.out.trans ((quiet_one hw').mono HB0.out.size))
 clear hw' k1 k2 ka24 ka25
 go_wp2_with fail
 go_ret
 exact⟨rfl,HB3.out⟩
set_option maxHeartbeats 8000000 in
theorem Txt0 {w:World} {x:Ms} {r:List Value} (h:MsI w x r) (hx:msP x) (ht:Tb w):Calls Tryz.prog 75 #[.agg r.toArray] w (TxP w (⟨#[32]⟩++dec x.number++⟨#[32]⟩++idT x.letter.idm x.letter.ids++⟨#[32]⟩++x.letter.meth++lsT x.letter.args)):=by
 obtain⟨A1,c1,A2,c2,A3,c3,A4,c4,A5,c5,A6,c6,A7,c7,A8,c8,hr,hl1,hl2,hl3,hl4,hl5,hl6,hl7,hl8⟩:=h
 obtain⟨M,hM⟩:∃ M,M=r.toArray:=⟨_,rfl⟩
 rw[← hM]
 rw[hr] at hM
 clear hr hl3 hl4 hl5 hl6 hl7 hl8
 have HM:=lh hM
 obtain⟨W,hW⟩:∃ W,W=w.alloc (.cells M 42):=⟨_,rfl⟩
 obtain⟨g,hg⟩:∃ g,g=w.heap.size:=⟨_,rfl⟩
 have hb0:Below w.heap.size w W:=by rw[hW];exact below_one _ _
 have hk0:Bk W g 42 M:=by rw[hW,hg];exact Bk.new _ _ _
 have HT:=lh (ht.below hb0)
 have HX:=lh hx
 have HB0:=lh hb0
 have HK0:=lh hk0
 have ML1:Hid (LsI (flat rfC) 26 8 W A1 c1 x.letter.args):=lh (LsI.below (show LsI (flat rfC) 26 8 w A1 c1 x.letter.args from hl1) (flat_ru rfC) (flat_rk rfC) hb0)
 have a1:W.cell? ⟨g,1,none⟩=some (.int .u64 x.number):=(hk0.cell 1).trans (by rw[HM.out];rfl)
 have ka1:=cell_regrown a1
 have a12:W.cell? ⟨g,12,none⟩=some (.int .i64 x.letter.idm):=(hk0.cell 12).trans (by rw[HM.out];rfl)
 have ka12:=cell_regrown a12
 have a13:W.cell? ⟨g,13,none⟩=some (.int .i64 x.letter.ids):=(hk0.cell 13).trans (by rw[HM.out];rfl)
 have ka13:=cell_regrown a13
 have a14:W.cell? ⟨g,14,none⟩=some (.string x.letter.meth):=(hk0.cell 14).trans (by rw[HM.out];rfl)
 have ka14:=cell_regrown a14
 have a15:W.cell? ⟨g,15,none⟩=some (.slice A1 x.letter.args.length c1):=(hk0.cell 15).trans (by rw[HM.out];rfl)
 have ka15:=cell_regrown a15
 have z1:(dec x.number).size≤20:=decU_size HX.out.2.2.2.2.1.1 HX.out.2.2.2.2.1.2
 have z3:(idT x.letter.idm x.letter.ids).size≤44:=idT_size HX.out.2.2.2.2.2.2.2.1.1 HX.out.2.2.2.2.2.2.2.1.2.1
 have z5:x.letter.meth.size≤4096:=by have:(x.letter.meth.size:Int)≤4096:=HX.out.2.2.2.2.2.2.2.1.2.2.1;omega
 have z6:(lsT x.letter.args).size≤101378:=lsT_le (by have:=HX.out.2.2.2.2.2.2.2.1.2.2.2.1;omega) HX.out.2.2.2.2.2.2.2.1.2.2.2.2
 have t1:¬ 9223372036854775807 < 1+(dec x.number).size:=by omega
 have t2:¬ 9223372036854775807 < 1+(dec x.number).size+1:=by omega
 have t3:¬ 9223372036854775807 < 1+(dec x.number).size+1+(idT x.letter.idm x.letter.ids).size:=by omega
 have t4:¬ 9223372036854775807 < 1+(dec x.number).size+1+(idT x.letter.idm x.letter.ids).size+1:=by omega
 have t5:¬ 9223372036854775807 < 1+(dec x.number).size+1+(idT x.letter.idm x.letter.ids).size+1+(x.letter.meth).size:=by omega
 have t6:¬ 9223372036854775807 < 1+(dec x.number).size+1+(idT x.letter.idm x.letter.ids).size+1+(x.letter.meth).size+(lsT x.letter.args).size:=by omega
 have k1:=fun dd os=>Calls.regrown_of (w:=W) (d:=dd) (os:=os) (f:=76) (Dec_any (u:=x.number) HX.out.2.2.2.2.1 _ (HT.out.below (below_regrown W dd os)))
 have k3:=fun dd os=>Calls.regrown_of (w:=W) (d:=dd) (os:=os) (f:=77) (IdFmt_any (a:=x.letter.idm) (b:=x.letter.ids) HX.out.2.2.2.2.2.2.2.1.1 HX.out.2.2.2.2.2.2.2.1.2.1 _ (HT.out.below (below_regrown W dd os)))
 have k6:=fun dd os=>Calls.regrown_of (w:=W) (d:=dd) (os:=os) (f:=78) (RefsText_any (LsI.below ML1.out (flat_ru rfC) (flat_rk rfC) (below_regrown W dd os)) (Nat.le_of_lt_succ (by have:=HX.out.2.2.2.2.2.2.2.1.2.2.2.1;omega)) HX.out.2.2.2.2.2.2.2.1.2.2.2.2 (HT.out.below (below_regrown W dd os)))
 clear hb0 hk0 hM ht hx hl1 hl2
 go_enter Tryz.func75,Tryz.ntmps75
 go_upto_region 1 with fail
 rw[← hW,← hg]
 clear hW hg
 clear a1 a12 a13 a14 a15
 refine wp_region_quiet_below (by kernel_rfl) (by kernel_rfl) ?_
 repeat (first | quiet_step (first | exact k1 _ _ | exact k3 _ _ | exact k6 _ _))
 refine wpQuiet_nil ?_
 intro w3 hw'
 have HB3:=lh (HB0.out.trans ((quiet_one hw').mono HB0.out.size))
 clear hw' k1 k3 k6 ka1 ka12 ka13 ka14 ka15
 go_wp2_with fail
 go_ret
 exact⟨rfl,HB3.out⟩
set_option maxHeartbeats 8000000 in
theorem Txt1 {w:World} {x:Ms} {r:List Value} (h:MsI w x r) (hx:msP x) (ht:Tb w):Calls Tryz.prog 82 #[.agg r.toArray] w (TxP w (⟨#[32]⟩++dec x.parcel.number++⟨#[32]⟩++idT x.parcel.idm x.parcel.ids++⟨#[32,99,108,97,115,115,32]⟩++dec x.parcel.cls++⟨#[32]⟩++lsT x.parcel.fields)):=by
 obtain⟨A1,c1,A2,c2,A3,c3,A4,c4,A5,c5,A6,c6,A7,c7,A8,c8,hr,hl1,hl2,hl3,hl4,hl5,hl6,hl7,hl8⟩:=h
 obtain⟨M,hM⟩:∃ M,M=r.toArray:=⟨_,rfl⟩
 rw[← hM]
 rw[hr] at hM
 clear hr hl3 hl4 hl5 hl6 hl7 hl8
 have HM:=lh hM
 obtain⟨W,hW⟩:∃ W,W=w.alloc (.cells M 42):=⟨_,rfl⟩
 obtain⟨g,hg⟩:∃ g,g=w.heap.size:=⟨_,rfl⟩
 have hb0:Below w.heap.size w W:=by rw[hW];exact below_one _ _
 have hk0:Bk W g 42 M:=by rw[hW,hg];exact Bk.new _ _ _
 have HT:=lh (ht.below hb0)
 have HX:=lh hx
 have HB0:=lh hb0
 have HK0:=lh hk0
 have ML2:Hid (LsI (flat rfC) 26 8 W A2 c2 x.parcel.fields):=lh (LsI.below (show LsI (flat rfC) 26 8 w A2 c2 x.parcel.fields from hl2) (flat_ru rfC) (flat_rk rfC) hb0)
 have a16:W.cell? ⟨g,16,none⟩=some (.int .u64 x.parcel.number):=(hk0.cell 16).trans (by rw[HM.out];rfl)
 have ka16:=cell_regrown a16
 have a17:W.cell? ⟨g,17,none⟩=some (.int .i64 x.parcel.idm):=(hk0.cell 17).trans (by rw[HM.out];rfl)
 have ka17:=cell_regrown a17
 have a18:W.cell? ⟨g,18,none⟩=some (.int .i64 x.parcel.ids):=(hk0.cell 18).trans (by rw[HM.out];rfl)
 have ka18:=cell_regrown a18
 have a20:W.cell? ⟨g,20,none⟩=some (.int .i64 x.parcel.cls):=(hk0.cell 20).trans (by rw[HM.out];rfl)
 have ka20:=cell_regrown a20
 have a21:W.cell? ⟨g,21,none⟩=some (.slice A2 x.parcel.fields.length c2):=(hk0.cell 21).trans (by rw[HM.out];rfl)
 have ka21:=cell_regrown a21
 have z1:(dec x.parcel.number).size≤20:=decU_size HX.out.2.2.2.2.2.2.2.2.1.1.1 HX.out.2.2.2.2.2.2.2.2.1.1.2
 have z3:(idT x.parcel.idm x.parcel.ids).size≤44:=idT_size HX.out.2.2.2.2.2.2.2.2.1.2.1 HX.out.2.2.2.2.2.2.2.2.1.2.2.1
 have z5:(dec x.parcel.cls).size≤21:=dec_size _ HX.out.2.2.2.2.2.2.2.2.1.2.2.2.2.1.1 HX.out.2.2.2.2.2.2.2.2.1.2.2.2.2.1.2
 have z7:(lsT x.parcel.fields).size≤101378:=lsT_le (by have:=HX.out.2.2.2.2.2.2.2.2.1.2.2.2.2.2.1.1;omega) HX.out.2.2.2.2.2.2.2.2.1.2.2.2.2.2.1.2
 have t1:¬ 9223372036854775807 < 1+(dec x.parcel.number).size:=by omega
 have t2:¬ 9223372036854775807 < 1+(dec x.parcel.number).size+1:=by omega
 have t3:¬ 9223372036854775807 < 1+(dec x.parcel.number).size+1+(idT x.parcel.idm x.parcel.ids).size:=by omega
 have t4:¬ 9223372036854775807 < 1+(dec x.parcel.number).size+1+(idT x.parcel.idm x.parcel.ids).size+7:=by omega
 have t5:¬ 9223372036854775807 < 1+(dec x.parcel.number).size+1+(idT x.parcel.idm x.parcel.ids).size+7+(dec x.parcel.cls).size:=by omega
 have t6:¬ 9223372036854775807 < 1+(dec x.parcel.number).size+1+(idT x.parcel.idm x.parcel.ids).size+7+(dec x.parcel.cls).size+1:=by omega
 have t7:¬ 9223372036854775807 < 1+(dec x.parcel.number).size+1+(idT x.parcel.idm x.parcel.ids).size+7+(dec x.parcel.cls).size+1+(lsT x.parcel.fields).size:=by omega
 have k1:=fun dd os=>Calls.regrown_of (w:=W) (d:=dd) (os:=os) (f:=76) (Dec_any (u:=x.parcel.number) HX.out.2.2.2.2.2.2.2.2.1.1 _ (HT.out.below (below_regrown W dd os)))
 have k3:=fun dd os=>Calls.regrown_of (w:=W) (d:=dd) (os:=os) (f:=77) (IdFmt_any (a:=x.parcel.idm) (b:=x.parcel.ids) HX.out.2.2.2.2.2.2.2.2.1.2.1 HX.out.2.2.2.2.2.2.2.2.1.2.2.1 _ (HT.out.below (below_regrown W dd os)))
 have k5:=fun dd os=>Calls.regrown_of (w:=W) (d:=dd) (os:=os) (f:=83) (Itoa_any x.parcel.cls HX.out.2.2.2.2.2.2.2.2.1.2.2.2.2.1.1 HX.out.2.2.2.2.2.2.2.2.1.2.2.2.2.1.2 _ (HT.out.below (below_regrown W dd os)))
 have k7:=fun dd os=>Calls.regrown_of (w:=W) (d:=dd) (os:=os) (f:=78) (RefsText_any (LsI.below ML2.out (flat_ru rfC) (flat_rk rfC) (below_regrown W dd os)) (Nat.le_of_lt_succ (by have:=HX.out.2.2.2.2.2.2.2.2.1.2.2.2.2.2.1.1;omega)) HX.out.2.2.2.2.2.2.2.2.1.2.2.2.2.2.1.2 (HT.out.below (below_regrown W dd os)))
 clear hb0 hk0 hM ht hx hl1 hl2
 go_enter Tryz.func82,Tryz.ntmps82
 go_upto_region 1 with fail
 rw[← hW,← hg]
 clear hW hg
 clear a16 a17 a18 a20 a21
 refine wp_region_quiet_below (by kernel_rfl) (by kernel_rfl) ?_
 repeat (first | quiet_step (first | exact k1 _ _ | exact k3 _ _ | exact k5 _ _ | exact k7 _ _))
 refine wpQuiet_nil ?_
 intro w3 hw'
 have HB3:=lh (HB0.out.trans ((quiet_one hw').mono HB0.out.size))
 clear hw' k1 k3 k5 k7 ka16 ka17 ka18 ka20 ka21
 go_wp2_with fail
 go_ret
 exact⟨rfl,HB3.out⟩
set_option maxHeartbeats 8000000 in
theorem Txt2 {w:World} {x:Ms} {r:List Value} (h:MsI w x r) (hx:msP x) (ht:Tb w):Calls Tryz.prog 145 #[.agg r.toArray] w (TxP w (⟨#[32]⟩++dec x.number++⟨#[32,102,111,114,32]⟩++dec x.asker)):=by
 obtain⟨A1,c1,A2,c2,A3,c3,A4,c4,A5,c5,A6,c6,A7,c7,A8,c8,hr,hl1,hl2,hl3,hl4,hl5,hl6,hl7,hl8⟩:=h
 obtain⟨M,hM⟩:∃ M,M=r.toArray:=⟨_,rfl⟩
 rw[← hM]
 rw[hr] at hM
 clear hr hl3 hl4 hl5 hl6 hl7 hl8
 have HM:=lh hM
 obtain⟨W,hW⟩:∃ W,W=w.alloc (.cells M 42):=⟨_,rfl⟩
 obtain⟨g,hg⟩:∃ g,g=w.heap.size:=⟨_,rfl⟩
 have hb0:Below w.heap.size w W:=by rw[hW];exact below_one _ _
 have hk0:Bk W g 42 M:=by rw[hW,hg];exact Bk.new _ _ _
 have HT:=lh (ht.below hb0)
 have HX:=lh hx
 have HB0:=lh hb0
 have HK0:=lh hk0
 have a1:W.cell? ⟨g,1,none⟩=some (.int .u64 x.number):=(hk0.cell 1).trans (by rw[HM.out];rfl)
 have ka1:=cell_regrown a1
 have a2:W.cell? ⟨g,2,none⟩=some (.int .i64 x.asker):=(hk0.cell 2).trans (by rw[HM.out];rfl)
 have ka2:=cell_regrown a2
 have z1:(dec x.number).size≤20:=decU_size HX.out.2.2.2.2.1.1 HX.out.2.2.2.2.1.2
 have z3:(dec x.asker).size≤21:=dec_size _ HX.out.2.1.1 HX.out.2.1.2
 have t1:¬ 9223372036854775807 < 1+(dec x.number).size:=by omega
 have t2:¬ 9223372036854775807 < 1+(dec x.number).size+5:=by omega
 have t3:¬ 9223372036854775807 < 1+(dec x.number).size+5+(dec x.asker).size:=by omega
 have k1:=fun dd os=>Calls.regrown_of (w:=W) (d:=dd) (os:=os) (f:=76) (Dec_any (u:=x.number) HX.out.2.2.2.2.1 _ (HT.out.below (below_regrown W dd os)))
 have k3:=fun dd os=>Calls.regrown_of (w:=W) (d:=dd) (os:=os) (f:=83) (Itoa_any x.asker HX.out.2.1.1 HX.out.2.1.2 _ (HT.out.below (below_regrown W dd os)))
 clear hb0 hk0 hM ht hx hl1 hl2
 go_enter Tryz.func145,Tryz.ntmps145
 go_upto_region 1 with fail
 rw[← hW,← hg]
 clear hW hg
 clear a1 a2
 refine wp_region_quiet_below (by kernel_rfl) (by kernel_rfl) ?_
 repeat (first | quiet_step (first | exact k1 _ _ | exact k3 _ _))
 refine wpQuiet_nil ?_
 intro w3 hw'
 have HB3:=lh (HB0.out.trans ((quiet_one hw').mono HB0.out.size))
 clear hw' k1 k3 ka1 ka2
 go_wp2_with fail
 go_ret
 exact⟨rfl,HB3.out⟩
set_option maxHeartbeats 8000000 in
theorem Txt4 {w:World} {x:Ms} {r:List Value} (h:MsI w x r) (hx:msP x) (ht:Tb w):Calls Tryz.prog 148 #[.agg r.toArray] w (TxP w (⟨#[32]⟩++rfT x.ref)):=by
 obtain⟨A1,c1,A2,c2,A3,c3,A4,c4,A5,c5,A6,c6,A7,c7,A8,c8,hr,hl1,hl2,hl3,hl4,hl5,hl6,hl7,hl8⟩:=h
 obtain⟨M,hM⟩:∃ M,M=r.toArray:=⟨_,rfl⟩
 rw[← hM]
 rw[hr] at hM
 clear hr hl3 hl4 hl5 hl6 hl7 hl8
 have HM:=lh hM
 obtain⟨W,hW⟩:∃ W,W=w.alloc (.cells M 42):=⟨_,rfl⟩
 obtain⟨g,hg⟩:∃ g,g=w.heap.size:=⟨_,rfl⟩
 have hb0:Below w.heap.size w W:=by rw[hW];exact below_one _ _
 have hk0:Bk W g 42 M:=by rw[hW,hg];exact Bk.new _ _ _
 have HT:=lh (ht.below hb0)
 have HX:=lh hx
 have HB0:=lh hb0
 have HK0:=lh hk0
 have a4:W.cell? ⟨g,4,none⟩=some (.int .i64 x.ref.kind):=(hk0.cell 4).trans (by rw[HM.out];rfl)
 have a5:W.cell? ⟨g,5,none⟩=some (.int .i64 x.ref.int):=(hk0.cell 5).trans (by rw[HM.out];rfl)
 have a6:W.cell? ⟨g,6,none⟩=some (.int .i64 x.ref.owner):=(hk0.cell 6).trans (by rw[HM.out];rfl)
 have a7:W.cell? ⟨g,7,none⟩=some (.int .u64 x.ref.number):=(hk0.cell 7).trans (by rw[HM.out];rfl)
 have a8:W.cell? ⟨g,8,none⟩=some (.int .i64 x.ref.idm):=(hk0.cell 8).trans (by rw[HM.out];rfl)
 have a9:W.cell? ⟨g,9,none⟩=some (.int .i64 x.ref.ids):=(hk0.cell 9).trans (by rw[HM.out];rfl)
 have a10:W.cell? ⟨g,10,none⟩=some (.int .i64 x.ref.cls):=(hk0.cell 10).trans (by rw[HM.out];rfl)
 have a11:W.cell? ⟨g,11,none⟩=some (.bool x.ref.weak):=(hk0.cell 11).trans (by rw[HM.out];rfl)
 have z1:(rfT x.ref).size≤97:=rfT_size HX.out.2.2.2.2.2.2.1
 have t1:¬ 9223372036854775807 < 1+(rfT x.ref).size:=by omega
 have k1:Calls Tryz.prog 105 _ W _:=RefText_any (x:=x.ref) HX.out.2.2.2.2.2.2.1 _ HT.out
 clear hb0 hk0 hM ht hx hl1 hl2
 go_enter Tryz.func148,Tryz.ntmps148
 go_upto_region 1 with fail
 rw[← hW,← hg]
 clear hW hg
 go_wp2_with fail
 refine k1.mono ?_
 rintro e w2 ⟨rfl,hb2⟩
 have HB2:=lh (HB0.out.trans (hb2.mono HB0.out.size))
 clear hb2
 go_wp2_with fail
 go_ret
 exact⟨rfl,HB2.out⟩
set_option maxHeartbeats 8000000 in
theorem Txt5 {w:World} {x:Ms} {r:List Value} (h:MsI w x r) (hx:msP x) (ht:Tb w):Calls Tryz.prog 86 #[.agg r.toArray] w (TxP w (⟨#[32]⟩++dec x.number)):=by
 obtain⟨A1,c1,A2,c2,A3,c3,A4,c4,A5,c5,A6,c6,A7,c7,A8,c8,hr,hl1,hl2,hl3,hl4,hl5,hl6,hl7,hl8⟩:=h
 obtain⟨M,hM⟩:∃ M,M=r.toArray:=⟨_,rfl⟩
 rw[← hM]
 rw[hr] at hM
 clear hr hl3 hl4 hl5 hl6 hl7 hl8
 have HM:=lh hM
 obtain⟨W,hW⟩:∃ W,W=w.alloc (.cells M 42):=⟨_,rfl⟩
 obtain⟨g,hg⟩:∃ g,g=w.heap.size:=⟨_,rfl⟩
 have hb0:Below w.heap.size w W:=by rw[hW];exact below_one _ _
 have hk0:Bk W g 42 M:=by rw[hW,hg];exact Bk.new _ _ _
 have HT:=lh (ht.below hb0)
 have HX:=lh hx
 have HB0:=lh hb0
 have HK0:=lh hk0
 have a1:W.cell? ⟨g,1,none⟩=some (.int .u64 x.number):=(hk0.cell 1).trans (by rw[HM.out];rfl)
 have z1:(dec x.number).size≤20:=decU_size HX.out.2.2.2.2.1.1 HX.out.2.2.2.2.1.2
 have t1:¬ 9223372036854775807 < 1+(dec x.number).size:=by omega
 have k1:Calls Tryz.prog 76 _ W _:=Dec_any (u:=x.number) HX.out.2.2.2.2.1 _ HT.out
 clear hb0 hk0 hM ht hx hl1 hl2
 go_enter Tryz.func86,Tryz.ntmps86
 go_upto_region 1 with fail
 rw[← hW,← hg]
 clear hW hg
 go_wp2_with fail
 refine k1.mono ?_
 rintro e w2 ⟨rfl,hb2⟩
 have HB2:=lh (HB0.out.trans (hb2.mono HB0.out.size))
 clear hb2
 go_wp2_with fail
 go_ret
 exact⟨rfl,HB2.out⟩
set_option maxHeartbeats 8000000 in
theorem Txt8 {w:World} {x:Ms} {r:List Value} (h:MsI w x r) (hx:msP x) (ht:Tb w):Calls Tryz.prog 90 #[.agg r.toArray] w (TxP w (⟨#[32]⟩++trT x++⟨#[32]⟩++dec x.number++⟨#[32,111,102,32]⟩++dec x.asker)):=by
 obtain⟨A1,c1,A2,c2,A3,c3,A4,c4,A5,c5,A6,c6,A7,c7,A8,c8,hr,hl1,hl2,hl3,hl4,hl5,hl6,hl7,hl8⟩:=h
 obtain⟨M,hM⟩:∃ M,M=r.toArray:=⟨_,rfl⟩
 rw[← hM]
 rw[hr] at hM
 clear hr hl3 hl4 hl5 hl6 hl7 hl8
 have HM:=lh hM
 obtain⟨W,hW⟩:∃ W,W=w.alloc (.cells M 42):=⟨_,rfl⟩
 obtain⟨g,hg⟩:∃ g,g=w.heap.size:=⟨_,rfl⟩
 have hb0:Below w.heap.size w W:=by rw[hW];exact below_one _ _
 have hk0:Bk W g 42 M:=by rw[hW,hg];exact Bk.new _ _ _
 have HT:=lh (ht.below hb0)
 have HX:=lh hx
 have HB0:=lh hb0
 have HK0:=lh hk0
 have a1:W.cell? ⟨g,1,none⟩=some (.int .u64 x.number):=(hk0.cell 1).trans (by rw[HM.out];rfl)
 have ka1:=cell_regrown a1
 have a2:W.cell? ⟨g,2,none⟩=some (.int .i64 x.asker):=(hk0.cell 2).trans (by rw[HM.out];rfl)
 have ka2:=cell_regrown a2
 have HSZ:Hid (M.toList.length=39):=lh (by rw[Array.length_toList,HM.out];rfl)
 have z1:(trT x).size≤43:=trT_size HX.out.2.2.1 HX.out.2.2.2.1
 have z3:(dec x.number).size≤20:=decU_size HX.out.2.2.2.2.1.1 HX.out.2.2.2.2.1.2
 have z5:(dec x.asker).size≤21:=dec_size _ HX.out.2.1.1 HX.out.2.1.2
 have t1:¬ 9223372036854775807 < 1+(trT x).size:=by omega
 have t2:¬ 9223372036854775807 < 1+(trT x).size+1:=by omega
 have t3:¬ 9223372036854775807 < 1+(trT x).size+1+(dec x.number).size:=by omega
 have t4:¬ 9223372036854775807 < 1+(trT x).size+1+(dec x.number).size+4:=by omega
 have t5:¬ 9223372036854775807 < 1+(trT x).size+1+(dec x.number).size+4+(dec x.asker).size:=by omega
 have k1:=fun dd os=>Calls.regrown_of (w:=W) (d:=dd) (os:=os) (f:=91) ((show Calls Tryz.prog 91 #[.agg M] (grow (redrawn W dd) os) (TxP (grow (redrawn W dd) os) (trT x)) by rw[HM.out];exact TraceT_any HX.out.2.2.1 HX.out.2.2.2.1 (HT.out.below (below_regrown W dd os))))
 have k3:=fun dd os=>Calls.regrown_of (w:=W) (d:=dd) (os:=os) (f:=76) (Dec_any (u:=x.number) HX.out.2.2.2.2.1 _ (HT.out.below (below_regrown W dd os)))
 have k5:=fun dd os=>Calls.regrown_of (w:=W) (d:=dd) (os:=os) (f:=83) (Itoa_any x.asker HX.out.2.1.1 HX.out.2.1.2 _ (HT.out.below (below_regrown W dd os)))
 clear hb0 hk0 hM ht hx hl1 hl2
 go_enter Tryz.func90,Tryz.ntmps90
 go_upto_region 1 with fail
 rw[← hW,← hg]
 clear hW hg
 clear a1 a2
 refine wp_region_quiet_below (by kernel_rfl) (by kernel_rfl) ?_
 repeat (first | (refine wpQuiet_whole rfl _ _ rfl g 0 rfl M _ HK0.out.rgr rfl rfl (by rw[HSZ.out];rfl) ?_) | quiet_step (first | exact k1 _ _ | exact k3 _ _ | exact k5 _ _))
 refine wpQuiet_nil ?_
 intro w3 hw'
 have HB3:=lh (HB0.out.trans ((quiet_one hw').mono HB0.out.size))
 clear hw' k1 k3 k5 ka1 ka2
 go_wp2_with fail
 go_ret
 exact⟨rfl,HB3.out⟩
set_option maxHeartbeats 8000000 in
theorem Txt9 {w:World} {x:Ms} {r:List Value} (h:MsI w x r) (hx:msP x) (ht:Tb w):Calls Tryz.prog 95 #[.agg r.toArray] w (TxP w (⟨#[32]⟩++trT x++⟨#[32,109,97,99,104,105,110,101,32]⟩++dec x.answer.machine)):=by
 obtain⟨A1,c1,A2,c2,A3,c3,A4,c4,A5,c5,A6,c6,A7,c7,A8,c8,hr,hl1,hl2,hl3,hl4,hl5,hl6,hl7,hl8⟩:=h
 obtain⟨M,hM⟩:∃ M,M=r.toArray:=⟨_,rfl⟩
 rw[← hM]
 rw[hr] at hM
 clear hr hl3 hl4 hl5 hl6 hl7 hl8
 have HM:=lh hM
 obtain⟨W,hW⟩:∃ W,W=w.alloc (.cells M 42):=⟨_,rfl⟩
 obtain⟨g,hg⟩:∃ g,g=w.heap.size:=⟨_,rfl⟩
 have hb0:Below w.heap.size w W:=by rw[hW];exact below_one _ _
 have hk0:Bk W g 42 M:=by rw[hW,hg];exact Bk.new _ _ _
 have HT:=lh (ht.below hb0)
 have HX:=lh hx
 have HB0:=lh hb0
 have HK0:=lh hk0
 have a26:W.cell? ⟨g,26,none⟩=some (.int .i64 x.answer.machine):=(hk0.cell 26).trans (by rw[HM.out];rfl)
 have ka26:=cell_regrown a26
 have HSZ:Hid (M.toList.length=39):=lh (by rw[Array.length_toList,HM.out];rfl)
 have z1:(trT x).size≤43:=trT_size HX.out.2.2.1 HX.out.2.2.2.1
 have z3:(dec x.answer.machine).size≤21:=dec_size _ HX.out.2.2.2.2.2.2.2.2.2.1.1.1 HX.out.2.2.2.2.2.2.2.2.2.1.1.2
 have t1:¬ 9223372036854775807 < 1+(trT x).size:=by omega
 have t2:¬ 9223372036854775807 < 1+(trT x).size+9:=by omega
 have t3:¬ 9223372036854775807 < 1+(trT x).size+9+(dec x.answer.machine).size:=by omega
 have k1:=fun dd os=>Calls.regrown_of (w:=W) (d:=dd) (os:=os) (f:=91) ((show Calls Tryz.prog 91 #[.agg M] (grow (redrawn W dd) os) (TxP (grow (redrawn W dd) os) (trT x)) by rw[HM.out];exact TraceT_any HX.out.2.2.1 HX.out.2.2.2.1 (HT.out.below (below_regrown W dd os))))
 have k3:=fun dd os=>Calls.regrown_of (w:=W) (d:=dd) (os:=os) (f:=83) (Itoa_any x.answer.machine HX.out.2.2.2.2.2.2.2.2.2.1.1.1 HX.out.2.2.2.2.2.2.2.2.2.1.1.2 _ (HT.out.below (below_regrown W dd os)))
 clear hb0 hk0 hM ht hx hl1 hl2
 go_enter Tryz.func95,Tryz.ntmps95
 go_upto_region 1 with fail
 rw[← hW,← hg]
 clear hW hg
 clear a26
 refine wp_region_quiet_below (by kernel_rfl) (by kernel_rfl) ?_
 repeat (first | (refine wpQuiet_whole rfl _ _ rfl g 0 rfl M _ HK0.out.rgr rfl rfl (by rw[HSZ.out];rfl) ?_) | quiet_step (first | exact k1 _ _ | exact k3 _ _))
 refine wpQuiet_nil ?_
 intro w3 hw'
 have HB3:=lh (HB0.out.trans ((quiet_one hw').mono HB0.out.size))
 clear hw' k1 k3 ka26
 go_wp2_with fail
 go_ret
 exact⟨rfl,HB3.out⟩
set_option maxHeartbeats 8000000 in
theorem Txt10 {w:World} {x:Ms} {r:List Value} (h:MsI w x r) (hx:msP x) (ht:Tb w):Calls Tryz.prog 99 #[.agg r.toArray] w (TxP w (⟨#[32]⟩++trT x++⟨#[32,109,97,99,104,105,110,101,32]⟩++dec x.claim.machine)):=by
 obtain⟨A1,c1,A2,c2,A3,c3,A4,c4,A5,c5,A6,c6,A7,c7,A8,c8,hr,hl1,hl2,hl3,hl4,hl5,hl6,hl7,hl8⟩:=h
 obtain⟨M,hM⟩:∃ M,M=r.toArray:=⟨_,rfl⟩
 rw[← hM]
 rw[hr] at hM
 clear hr hl3 hl4 hl5 hl6 hl7 hl8
 have HM:=lh hM
 obtain⟨W,hW⟩:∃ W,W=w.alloc (.cells M 42):=⟨_,rfl⟩
 obtain⟨g,hg⟩:∃ g,g=w.heap.size:=⟨_,rfl⟩
 have hb0:Below w.heap.size w W:=by rw[hW];exact below_one _ _
 have hk0:Bk W g 42 M:=by rw[hW,hg];exact Bk.new _ _ _
 have HT:=lh (ht.below hb0)
 have HX:=lh hx
 have HB0:=lh hb0
 have HK0:=lh hk0
 have a34:W.cell? ⟨g,34,none⟩=some (.int .i64 x.claim.machine):=(hk0.cell 34).trans (by rw[HM.out];rfl)
 have ka34:=cell_regrown a34
 have HSZ:Hid (M.toList.length=39):=lh (by rw[Array.length_toList,HM.out];rfl)
 have z1:(trT x).size≤43:=trT_size HX.out.2.2.1 HX.out.2.2.2.1
 have z3:(dec x.claim.machine).size≤21:=dec_size _ HX.out.2.2.2.2.2.2.2.2.2.2.1.1 HX.out.2.2.2.2.2.2.2.2.2.2.1.2
 have t1:¬ 9223372036854775807 < 1+(trT x).size:=by omega
 have t2:¬ 9223372036854775807 < 1+(trT x).size+9:=by omega
 have t3:¬ 9223372036854775807 < 1+(trT x).size+9+(dec x.claim.machine).size:=by omega
 have k1:=fun dd os=>Calls.regrown_of (w:=W) (d:=dd) (os:=os) (f:=91) ((show Calls Tryz.prog 91 #[.agg M] (grow (redrawn W dd) os) (TxP (grow (redrawn W dd) os) (trT x)) by rw[HM.out];exact TraceT_any HX.out.2.2.1 HX.out.2.2.2.1 (HT.out.below (below_regrown W dd os))))
 have k3:=fun dd os=>Calls.regrown_of (w:=W) (d:=dd) (os:=os) (f:=83) (Itoa_any x.claim.machine HX.out.2.2.2.2.2.2.2.2.2.2.1.1 HX.out.2.2.2.2.2.2.2.2.2.2.1.2 _ (HT.out.below (below_regrown W dd os)))
 clear hb0 hk0 hM ht hx hl1 hl2
 go_enter Tryz.func99,Tryz.ntmps99
 go_upto_region 1 with fail
 rw[← hW,← hg]
 clear hW hg
 clear a34
 refine wp_region_quiet_below (by kernel_rfl) (by kernel_rfl) ?_
 repeat (first | (refine wpQuiet_whole rfl _ _ rfl g 0 rfl M _ HK0.out.rgr rfl rfl (by rw[HSZ.out];rfl) ?_) | quiet_step (first | exact k1 _ _ | exact k3 _ _))
 refine wpQuiet_nil ?_
 intro w3 hw'
 have HB3:=lh (HB0.out.trans ((quiet_one hw').mono HB0.out.size))
 clear hw' k1 k3 ka34
 go_wp2_with fail
 go_ret
 exact⟨rfl,HB3.out⟩
set_option maxHeartbeats 8000000 in
theorem Txt11 {w:World} {x:Ms} {r:List Value} (h:MsI w x r) (hx:msP x) (ht:Tb w):Calls Tryz.prog 150 #[.agg r.toArray] w (TxP w (⟨#[32]⟩++trT x)):=by
 obtain⟨A1,c1,A2,c2,A3,c3,A4,c4,A5,c5,A6,c6,A7,c7,A8,c8,hr,hl1,hl2,hl3,hl4,hl5,hl6,hl7,hl8⟩:=h
 obtain⟨M,hM⟩:∃ M,M=r.toArray:=⟨_,rfl⟩
 rw[← hM]
 rw[hr] at hM
 clear hr hl3 hl4 hl5 hl6 hl7 hl8
 have HM:=lh hM
 obtain⟨W,hW⟩:∃ W,W=w.alloc (.cells M 42):=⟨_,rfl⟩
 obtain⟨g,hg⟩:∃ g,g=w.heap.size:=⟨_,rfl⟩
 have hb0:Below w.heap.size w W:=by rw[hW];exact below_one _ _
 have hk0:Bk W g 42 M:=by rw[hW,hg];exact Bk.new _ _ _
 have HT:=lh (ht.below hb0)
 have HX:=lh hx
 have HB0:=lh hb0
 have HK0:=lh hk0
 have HSZ:Hid (M.toList.length=39):=lh (by rw[Array.length_toList,HM.out];rfl)
 have z1:(trT x).size≤43:=trT_size HX.out.2.2.1 HX.out.2.2.2.1
 have t1:¬ 9223372036854775807 < 1+(trT x).size:=by omega
 have k1:Calls Tryz.prog 91 _ W _:=(show Calls Tryz.prog 91 #[.agg M] W (TxP W (trT x)) by rw[HM.out];exact TraceT_any HX.out.2.2.1 HX.out.2.2.2.1 HT.out)
 clear hb0 hk0 hM ht hx hl1 hl2
 go_enter Tryz.func150,Tryz.ntmps150
 go_upto_region 1 with fail
 rw[← hW,← hg]
 clear hW hg
 refine wp_region_list ?_
 refine wpList_load_mid rfl _ _ rfl g 0 rfl M.toList _ HK0.out.rng rfl rfl (by rw[HSZ.out];rfl) ?_
 simp only[Array.toArray_toList]
 go_wp2_with fail
 refine k1.mono ?_
 rintro e w2 ⟨rfl,hb2⟩
 have HB2:=lh (HB0.out.trans (hb2.mono HB0.out.size))
 clear hb2
 go_wp2_with fail
 go_ret
 exact⟨rfl,HB2.out⟩
set_option maxHeartbeats 8000000 in
theorem Txt17 {w:World} {x:Ms} {r:List Value} (h:MsI w x r) (hx:msP x) (ht:Tb w):Calls Tryz.prog 104 #[.agg r.toArray] w (TxP w (⟨#[32]⟩++x.name++⟨#[32]⟩++rfT x.ref)):=by
 obtain⟨A1,c1,A2,c2,A3,c3,A4,c4,A5,c5,A6,c6,A7,c7,A8,c8,hr,hl1,hl2,hl3,hl4,hl5,hl6,hl7,hl8⟩:=h
 obtain⟨M,hM⟩:∃ M,M=r.toArray:=⟨_,rfl⟩
 rw[← hM]
 rw[hr] at hM
 clear hr hl3 hl4 hl5 hl6 hl7 hl8
 have HM:=lh hM
 obtain⟨W,hW⟩:∃ W,W=w.alloc (.cells M 42):=⟨_,rfl⟩
 obtain⟨g,hg⟩:∃ g,g=w.heap.size:=⟨_,rfl⟩
 have hb0:Below w.heap.size w W:=by rw[hW];exact below_one _ _
 have hk0:Bk W g 42 M:=by rw[hW,hg];exact Bk.new _ _ _
 have HT:=lh (ht.below hb0)
 have HX:=lh hx
 have HB0:=lh hb0
 have HK0:=lh hk0
 have a3:W.cell? ⟨g,3,none⟩=some (.string x.name):=(hk0.cell 3).trans (by rw[HM.out];rfl)
 have ka3:=cell_regrown a3
 have a4:W.cell? ⟨g,4,none⟩=some (.int .i64 x.ref.kind):=(hk0.cell 4).trans (by rw[HM.out];rfl)
 have ka4:=cell_regrown a4
 have a5:W.cell? ⟨g,5,none⟩=some (.int .i64 x.ref.int):=(hk0.cell 5).trans (by rw[HM.out];rfl)
 have ka5:=cell_regrown a5
 have a6:W.cell? ⟨g,6,none⟩=some (.int .i64 x.ref.owner):=(hk0.cell 6).trans (by rw[HM.out];rfl)
 have ka6:=cell_regrown a6
 have a7:W.cell? ⟨g,7,none⟩=some (.int .u64 x.ref.number):=(hk0.cell 7).trans (by rw[HM.out];rfl)
 have ka7:=cell_regrown a7
 have a8:W.cell? ⟨g,8,none⟩=some (.int .i64 x.ref.idm):=(hk0.cell 8).trans (by rw[HM.out];rfl)
 have ka8:=cell_regrown a8
 have a9:W.cell? ⟨g,9,none⟩=some (.int .i64 x.ref.ids):=(hk0.cell 9).trans (by rw[HM.out];rfl)
 have ka9:=cell_regrown a9
 have a10:W.cell? ⟨g,10,none⟩=some (.int .i64 x.ref.cls):=(hk0.cell 10).trans (by rw[HM.out];rfl)
 have ka10:=cell_regrown a10
 have a11:W.cell? ⟨g,11,none⟩=some (.bool x.ref.weak):=(hk0.cell 11).trans (by rw[HM.out];rfl)
 have ka11:=cell_regrown a11
 have z1:x.name.size≤4096:=by have:(x.name.size:Int)≤4096:=HX.out.2.2.2.2.2.1;omega
 have z3:(rfT x.ref).size≤97:=rfT_size HX.out.2.2.2.2.2.2.1
 have t1:¬ 9223372036854775807 < 1+(x.name).size:=by omega
 have t2:¬ 9223372036854775807 < 1+(x.name).size+1:=by omega
 have t3:¬ 9223372036854775807 < 1+(x.name).size+1+(rfT x.ref).size:=by omega
 have k3:=fun dd os=>Calls.regrown_of (w:=W) (d:=dd) (os:=os) (f:=105) (RefText_any (x:=x.ref) HX.out.2.2.2.2.2.2.1 _ (HT.out.below (below_regrown W dd os)))
 clear hb0 hk0 hM ht hx hl1 hl2
 go_enter Tryz.func104,Tryz.ntmps104
 go_upto_region 1 with fail
 rw[← hW,← hg]
 clear hW hg
 clear a3 a4 a5 a6 a7 a8 a9 a10 a11
 refine wp_region_quiet_below (by kernel_rfl) (by kernel_rfl) ?_
 repeat (first | quiet_step (first | exact k3 _ _))
 refine wpQuiet_nil ?_
 intro w3 hw'
 have HB3:=lh (HB0.out.trans ((quiet_one hw').mono HB0.out.size))
 clear hw' k3 ka3 ka4 ka5 ka6 ka7 ka8 ka9 ka10 ka11
 go_wp2_with fail
 go_ret
 exact⟨rfl,HB3.out⟩
theorem Txt15 {w:World} {x:Ms} {r:List Value} (h:MsI w x r) (hx:msP x) (ht:Tb w):Calls Tryz.prog 153 #[.agg r.toArray] w (TxP w ⟨#[]⟩):=by
 obtain⟨M,hM⟩:∃ M,M=r.toArray:=⟨_,rfl⟩
 rw[← hM]
 clear hM h hx ht
 go_enter Tryz.func153,Tryz.ntmps153
 go_wp2_with fail
 go_ret
 exact⟨rfl,below_one _ _⟩
end
section
open Go.RowKit Go.Sort
attribute [local go_sem] Oper.semAt_some
def txK (k:Nat) (x:Ms):ByteArray :=
 match k with
 | 0=>⟨#[32]⟩++dec x.number++⟨#[32]⟩++idT x.letter.idm x.letter.ids++⟨#[32]⟩++x.letter.meth++lsT x.letter.args
 | 1=>⟨#[32]⟩++dec x.parcel.number++⟨#[32]⟩++idT x.parcel.idm x.parcel.ids++⟨#[32,99,108,97,115,115,32]⟩++dec x.parcel.cls++⟨#[32]⟩++lsT x.parcel.fields
 | 2=>⟨#[32]⟩++dec x.number++⟨#[32,102,111,114,32]⟩++dec x.asker
 | 3=>⟨#[32]⟩++dec x.number++⟨#[32,102,111,114,32]⟩++dec x.asker
 | 4=>⟨#[32]⟩++rfT x.ref
 | 5=>⟨#[32]⟩++dec x.number
 | 6=>⟨#[32]⟩++dec x.number++⟨#[32,102,111,114,32]⟩++dec x.asker
 | 7=>⟨#[32]⟩++rfT x.ref
 | 8=>⟨#[32]⟩++trT x++⟨#[32]⟩++dec x.number++⟨#[32,111,102,32]⟩++dec x.asker
 | 9=>⟨#[32]⟩++trT x++⟨#[32,109,97,99,104,105,110,101,32]⟩++dec x.answer.machine
 | 10=>⟨#[32]⟩++trT x++⟨#[32,109,97,99,104,105,110,101,32]⟩++dec x.claim.machine
 | 11=>⟨#[32]⟩++trT x
 | 12=>⟨#[32]⟩++trT x
 | 13=>⟨#[32]⟩++trT x
 | 14=>⟨#[32]⟩++trT x
 | 15=>⟨#[]⟩
 | 16=>⟨#[]⟩
 | 17=>⟨#[32]⟩++x.name++⟨#[32]⟩++rfT x.ref
 | _=>⟨#[]⟩
theorem Tx_any {w:World} {x:Ms} {r:List Value} (h:MsI w x r) (hx:msP x) (ht:Tb w) {k:Nat} (hk:k < 18):Calls Tryz.prog (kC k) #[.agg r.toArray] w (TxP w (txK k x)):=by
 rcases (show k=0 ∨ k=1 ∨ k=2 ∨ k=3 ∨ k=4 ∨ k=5 ∨ k=6 ∨ k=7 ∨ k=8 ∨ k=9 ∨ k=10 ∨ k=11 ∨ k=12 ∨ k=13 ∨ k=14 ∨ k=15 ∨ k=16 ∨ k=17 by omega) with rfl | rfl | rfl | rfl | rfl | rfl | rfl | rfl | rfl | rfl | rfl | rfl | rfl | rfl | rfl | rfl | rfl | rfl
 ·exact Txt0 h hx ht
 ·exact Txt1 h hx ht
 ·exact Txt2 h hx ht
 ·exact Txt2 h hx ht
 ·exact Txt4 h hx ht
 ·exact Txt5 h hx ht
 ·exact Txt2 h hx ht
 ·exact Txt4 h hx ht
 ·exact Txt8 h hx ht
 ·exact Txt9 h hx ht
 ·exact Txt10 h hx ht
 ·exact Txt11 h hx ht
 ·exact Txt11 h hx ht
 ·exact Txt11 h hx ht
 ·exact Txt11 h hx ht
 ·exact Txt15 h hx ht
 ·exact Txt15 h hx ht
 ·exact Txt17 h hx ht
theorem callC {k:Nat} (hk:k < 18) (args:Array Value) (w:World):Sem.run Tryz.prog (callFunc (kC k) args) w=.ok (.enter (kC k) args) w:=by
 rcases (show k=0 ∨ k=1 ∨ k=2 ∨ k=3 ∨ k=4 ∨ k=5 ∨ k=6 ∨ k=7 ∨ k=8 ∨ k=9 ∨ k=10 ∨ k=11 ∨ k=12 ∨ k=13 ∨ k=14 ∨ k=15 ∨ k=16 ∨ k=17 by omega) with rfl | rfl | rfl | rfl | rfl | rfl | rfl | rfl | rfl | rfl | rfl | rfl | rfl | rfl | rfl | rfl | rfl | rfl <;> rfl
theorem txK_size {x:Ms} (h:msP x) (k:Nat):(txK k x).size≤120000:=by
 obtain⟨h1,h2,h3,h4,h5,h6,h7,h8,h9,h10,h11⟩:=h
 have a1:=decU_size h5.1 h5.2
 have a2:=idT_size h8.1 h8.2.1
 have a3:x.letter.meth.size≤4096:=by have:(x.letter.meth.size:Int)≤4096:=h8.2.2.1;omega
 have a4:=lsT_le (by have:=h8.2.2.2.1;omega) h8.2.2.2.2
 have a5:=decU_size h9.1.1 h9.1.2
 have a6:=idT_size h9.2.1 h9.2.2.1
 have a7:=dec_size x.parcel.cls h9.2.2.2.2.1.1 h9.2.2.2.2.1.2
 have a8:=lsT_le (by have:=h9.2.2.2.2.2.1.1;omega) h9.2.2.2.2.2.1.2
 have a9:=dec_size x.asker h2.1 h2.2
 have b1:=rfT_size h7
 have b2:=trT_size (x:=x) h3 h4
 have b3:=dec_size x.answer.machine h10.1.1 h10.1.2
 have b4:=dec_size x.claim.machine h11.1.1 h11.1.2
 have b5:x.name.size≤4096:=by have:(x.name.size:Int)≤4096:=h6;omega
 have c:∀ a:Array UInt8,(⟨a⟩:ByteArray).size=a.size:=fun a=>rfl
 unfold txK
 have d1:(⟨#[32]⟩:ByteArray).size=1:=rfl
 have d2:(⟨#[32,99,108,97,115,115,32]⟩:ByteArray).size=7:=rfl
 have d3:(⟨#[32,102,111,114,32]⟩:ByteArray).size=5:=rfl
 have d4:(⟨#[32,111,102,32]⟩:ByteArray).size=4:=rfl
 have d5:(⟨#[32,109,97,99,104,105,110,101,32]⟩:ByteArray).size=9:=rfl
 have d6:(⟨#[]⟩:ByteArray).size=0:=rfl
 split <;> simp only[ByteArray.size_append,d1,d2,d3,d4,d5,d6] <;> omega
theorem kS_size {k:Nat} (hk:k < 18):(kS k).size≤8:=by
 rcases (show k=0 ∨ k=1 ∨ k=2 ∨ k=3 ∨ k=4 ∨ k=5 ∨ k=6 ∨ k=7 ∨ k=8 ∨ k=9 ∨ k=10 ∨ k=11 ∨ k=12 ∨ k=13 ∨ k=14 ∨ k=15 ∨ k=16 ∨ k=17 by omega) with rfl | rfl | rfl | rfl | rfl | rfl | rfl | rfl | rfl | rfl | rfl | rfl | rfl | rfl | rfl | rfl | rfl | rfl <;> decide
def fmtV (x:Ms):ByteArray:=if msV x=true then kS x.kind.toNat++txK x.kind.toNat x else ⟨#[105,110,118,97,108,105,100]⟩
set_option maxHeartbeats 8000000 in
theorem Format_any {w:World} {x:Ms} {r:List Value} (h:MsI w x r) (hx:msP x) (hl:(encMs x).length≤2147483648) (ht:Tb w):Calls Tryz.prog 18 #[.agg r.toArray] w (TxP w (fmtV x)):=by
 have hsz:r.toArray.toList.length=39:=h.len
 have hkd:=h.kind
 obtain⟨M,hM⟩:∃ M,M=r.toArray:=⟨_,rfl⟩
 rw[← hM] at hsz hkd ⊢
 have HSZ:=lh hsz
 have HKD:=lh hkd
 have HM:=lh hM
 obtain⟨W,hW⟩:∃ W,W=w.alloc (.cells M 42):=⟨_,rfl⟩
 obtain⟨g,hg⟩:∃ g,g=w.heap.size:=⟨_,rfl⟩
 have hb0:Below w.heap.size w W:=by rw[hW];exact below_one _ _
 have hk0:Bk W g 42 M:=by rw[hW,hg];exact Bk.new _ _ _
 have HB0:=lh hb0
 have HK0:=lh hk0
 have HT:=lh (ht.below hb0)
 have cV:Calls Tryz.prog 12 #[.agg M] W (YesP W (msV x)):=by rw[HM.out];exact Valid_any (h.below hb0) hx hl
 have H:=lh (And.intro h (And.intro hx hl))
 obtain⟨T,hT⟩:∃ T,T=fmtV x:=⟨_,rfl⟩
 rw[← hT]
 unfold fmtV at hT
 clear hb0 hk0 hM h hx hl hsz hkd ht
 go_enter Tryz.func18,Tryz.ntmps18
 go_upto_region 1 with fail
 rw[← hW,← hg]
 clear hW hg
 refine wp_region_list ?_
 refine wpList_load_mid rfl _ _ rfl g 0 rfl M.toList _ HK0.out.rng rfl rfl (by rw[HSZ.out];rfl) ?_
 simp only[Array.toArray_toList]
 cases hv:msV x with
 | false =>
  rw[hv] at cV hT
  have HTE:Hid (T=⟨#[105,110,118,97,108,105,100]⟩):=lh hT
  clear hT hv
  go_wp2_with fail
  refine cV.mono ?_
  rintro e w2 ⟨rfl,hb2⟩
  have HB2:=lh (HB0.out.trans (hb2.mono HB0.out.size))
  clear cV hb2
  go_wp2_with fail
  go_ret
  rw[HTE.out]
  exact⟨rfl,HB2.out⟩
 | true =>
  rw[hv,if_pos rfl] at hT
  rw[hv] at cV
  obtain⟨k,hk⟩:∃ k:Nat,k=x.kind.toNat:=⟨_,rfl⟩
  have hkk:x.kind=k∧k < 18:=by
   unfold msV at hv
   have:=hv
   simp only[Bool.and_eq_true,decide_eq_true_eq] at this
   omega
  rw[← hk] at hT
  have HTE:=lh hT
  have HK:=lh hkk
  clear hT hv hk hkk
  go_wp2_with fail
  refine cV.mono ?_
  rintro e w2 ⟨rfl,hb2⟩
  have HB2:=lh (HB0.out.trans (hb2.mono HB0.out.size))
  have HK2:=lh (HK0.out.below hb2 HK0.out.lt)
  have HT2:=lh (HT.out.below hb2)
  have a0:w2.cell? ⟨g,0,none⟩=some (.int .i64 (k:Int)):=(HK2.out.cell 0).trans (by rw[← HK.out.1];exact HKD.out)
  have cF:=find_in w2 HK.out.2
  unfold kV at cF
  clear cV hb2
  go_upto_region 4 with (go_at_call 26;refine cF.mono ?_;rintro e w3 ⟨rfl,hb3⟩)
  have HB3:=lh (HB2.out.trans (hb3.mono HB2.out.size))
  have HK3:=lh (HK2.out.below hb3 HK2.out.lt)
  have HT3:=lh (HT2.out.below hb3)
  obtain⟨w4,hw4⟩:∃ w4,w4=w3.alloc (.cells #[.string (kS k),.func (.func (kA k)) #[] #[],.func (.func (kB k)) #[] #[],.func (.func (kC k)) #[] #[]] 68):=⟨_,rfl⟩
  obtain⟨b4,hb4⟩:∃ b4,b4=w3.heap.size:=⟨_,rfl⟩
  have hB4:Below w3.heap.size w3 w4:=by rw[hw4];exact below_one _ _
  have hq4:Bk w4 b4 68 #[.string (kS k),.func (.func (kA k)) #[] #[],.func (.func (kB k)) #[] #[],.func (.func (kC k)) #[] #[]]:=by rw[hw4,hb4];exact Bk.new _ _ _
  have HB4:=lh (HB3.out.trans (hB4.mono HB3.out.size))
  have HK4:=lh (HK3.out.below hB4 HK3.out.lt)
  have HT4:=lh (HT3.out.below hB4)
  have f0:=cell_regrown (hq4.cell 0)
  have f3:=cell_regrown (hq4.cell 3)
  have hcc:=fun args w=>callC HK.out.2 args w
  have kc:∀ dd os,Calls Tryz.prog (kC k) #[.agg M] (grow (redrawn w4 dd) os) fun e w'=>e=.returned (.string (txK k x))∧∃ p:Regrown,w'=grow (redrawn w4 p.d) p.os:=fun dd os=>Calls.regrown_of (w:=w4) (d:=dd) (os:=os) (by rw[HM.out];exact Tx_any (H.out.1.below (HB4.out.trans ((below_regrown w4 dd os).mono HB4.out.size))) H.out.2.1 (HT4.out.below (below_regrown w4 dd os)) HK.out.2)
  have z1:=txK_size H.out.2.1 k
  have z2:=kS_size HK.out.2
  have t1:¬ 9223372036854775807 < (kS k).size+(txK k x).size:=by omega
  rw[← hw4,← hb4]
  clear hw4 hb4 hB4 hq4 hb3 cF a0
  refine wp_region_quiet_below (by kernel_rfl) (by kernel_rfl) ?_
  repeat (first | (refine wpQuiet_whole rfl _ _ rfl g 0 rfl M _ HK4.out.rgr rfl rfl (by rw[HSZ.out];rfl) ?_) | quiet_step (exact kc _ _))
  refine wpQuiet_nil ?_
  intro w5 hw'
  have HB5:=lh (HB4.out.trans ((quiet_one hw').mono HB4.out.size))
  clear hw' kc f0 f3
  go_wp2_with fail
  go_ret
  rw[HTE.out]
  exact⟨rfl,HB5.out⟩
end
end Go.Proofs.YtmbnlccafcfbeaaGreatDoor
