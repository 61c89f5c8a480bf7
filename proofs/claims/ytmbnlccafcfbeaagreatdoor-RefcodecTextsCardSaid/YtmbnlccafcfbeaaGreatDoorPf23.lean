/- Parts of the proof: RtA, RtB, RtC, RtD, RtF, RtE, RsM, LwG. -/
import Derived.Deep.DeepCutAuto
import Derived.Deep.RegionWith
import Derived.Laws.BytesArg
import Derived.Lib.ItoaLen
import Derived.Test.YtmbnlccafcfbeaaGreatDoorPfA
import Derived.Test.YtmbnlccafcfbeaaGreatDoorPf16
import Derived.Test.YtmbnlccafcfbeaaGreatDoorPf19
import Derived.Test.YtmbnlccafcfbeaaGreatDoorPf22
set_option linter.unusedVariables false
set_option linter.unusedSimpArgs false
set_option linter.unusedSectionVars false
set_option maxRecDepth 100000
set_option maxHeartbeats 64000000
namespace Go.Proofs.YtmbnlccafcfbeaaGreatDoor
section
open Go.RowKit Go.Sort
def digB (u:Nat):ByteArray:=⟨(Lib.decDigits u).toArray⟩
theorem digB_size (u:Nat) (h:u < 18446744073709551616):(digB u).size≤20:=by
 have h1:=Lib.nDigits_le20 u h;rw[← Lib.decDigits_length] at h1;exact h1
theorem digB_small (u:Nat) (h:u < 10):digB u=⟨#[UInt8.ofNat (48+u)]⟩:=by unfold digB;rw[Lib.decDigits,dif_pos h]
theorem digB_big (u:Nat) (h:¬ u < 10):digB u=digB (u / 10)++⟨#[UInt8.ofNat (48+u % 10)]⟩:=by
 unfold digB;rw[Lib.decDigits,dif_neg h]
 apply Go.WideShapes.bytes_inj
 simp
theorem conv_at (w:World) (b:Nat) (x:Int) (hc:w.cell? ⟨b,0,none⟩=some (.int .u8 x)):(convert 45 9 (.slice (some ⟨b,0,none⟩) 1 1)).run Tryz.prog w=.ok (.string (strOfNums [x])) w :=
 run_convert_bytes_arg _ 45 5 Tryz.underlying45 Tryz.underlying5 b 0 1 1 [x] rfl (fun i hi=>by obtain rfl:i=0:=(by omega);simpa using hc) 9 Tryz.underlying9
theorem conv_one (w:World) (x:Int):(convert 45 9 (.slice (some ⟨w.heap.size,0,none⟩) 1 1)).run Tryz.prog (w.alloc (.cells #[.int .u8 x] 5))=.ok (.string (strOfNums [x])) (w.alloc (.cells #[.int .u8 x] 5)) :=
 run_convert_bytes_arg _ 45 5 Tryz.underlying45 Tryz.underlying5 w.heap.size 0 1 1 [x] rfl (fun i hi=>by obtain rfl:i=0:=(by omega);simp) 9 Tryz.underlying9
theorem strOf_one (u:Nat):strOfNums [48+(u:Int)]=⟨#[UInt8.ofNat (48+u)]⟩:=by
 have e:(48+(u:Int)).toNat=48+u:=by omega
 simp[strOfNums,e]
theorem qq3 (u:Nat) (hu:u < 10) (w:World):Calls Tryz.prog 37 #[uv (u:Int)] w fun e w'=>e=.returned (.string (digB u))∧bw w w':=by
 have HD:=lh (digB_small u hu);have hcv:=conv_one w (48+u);have HS:=lh (strOf_one u)
 go_enter Tryz.func37,Tryz.ntmps37
 go_wp2
 go_ret;exact⟨by rw[HD.o,← HS.o];rfl,(Below.refl _ _).alloc (Nat.le_refl _) _⟩
theorem Digits_any:∀ (f u:Nat) (w:World),u < 10 ^ (f+1)→u≤18446744073709551615→Calls Tryz.prog 37 #[uv (u:Int)] w fun e w'=>e=.returned (.string (digB u))∧bw w w'
 | 0,u,w,h,h1=>qq3 u (by omega) w
 | f+1,u,w,h,h1=>by
  by_cases hu:u < 10
  ·exact qq3 u hu w
  ·obtain⟨q,hq⟩:∃ q:Nat,q=u / 10:=⟨_,rfl⟩
   obtain⟨r,hr⟩:∃ r:Nat,r=u % 10:=⟨_,rfl⟩
   have hdig:=digB_big u hu;rw[← hq,← hr] at hdig;have HD:=lh hdig;have ih:=fun w=>Digits_any f q w (by rw[Nat.pow_succ] at h;omega) (by omega);have hu':¬ ((u:Int) < 10):=by omega
   have e1:IntKind.u64.wrap ((u:Int) / 10)=(q:Int):=by simp only[IntKind.wrap,IntKind.signed,IntKind.bits];simp;omega
   have e2:(u:Int).tmod 10=(r:Int):=by rw[Int.tmod_eq_emod_of_nonneg (by omega)];omega
   have e3:IntKind.u64.wrap (48+(r:Int))=48+(r:Int):=by simp only[IntKind.wrap,IntKind.signed,IntKind.bits];simp;omega
   have e4:IntKind.u8.wrap (48+(r:Int))=48+(r:Int):=by simp only[IntKind.wrap,IntKind.signed,IntKind.bits];simp;omega
   have hc0:=conv_one w (48+(r:Int));have hc1:∀ w':World,(convert 45 9 (.slice (some ⟨w'.heap.size,0,none⟩) 1 1)).run Tryz.prog (w'.alloc (.cells #[.int .u8 (48+(r:Int))] 5))=.ok (.string (strOfNums [48+(r:Int)])) (w'.alloc (.cells #[.int .u8 (48+(r:Int))] 5)):=fun w'=>conv_one w' _;have hc2:∀ w':World,(convert 45 9 (.slice (some ⟨w'.heap.size,0,none⟩) 1 1)).run Tryz.prog ((w'.alloc (.cells #[.int .u8 (48+(r:Int))] 5)).drew)=.ok (.string (strOfNums [48+(r:Int)])) ((w'.alloc (.cells #[.int .u8 (48+(r:Int))] 5)).drew):=fun w'=>conv_at _ _ _ (by simp);have hs1:(strOfNums [48+(r:Int)]).size=1:=by rw[strOfNums_size];rfl
   have hsz:¬ 9223372036854775807 < (digB q).size+1:=by
    have:=digB_size q (by omega)
    omega
   have hl:w.heap.size < ((w.alloc (.cells #[.int .u8 (48+(r:Int))] 5)).drew).heap.size:=by simp[World.drew]
   have hk:((w.alloc (.cells #[.int .u8 (48+(r:Int))] 5)).drew).cell? ⟨w.heap.size,0,none⟩=some (.int .u8 (48+(r:Int))):=by simp
   have hbw:bw w ((w.alloc (.cells #[.int .u8 (48+(r:Int))] 5)).drew):=((Below.refl _ _).alloc (Nat.le_refl _) _).drew;have HLK:=lh (And.intro hl (And.intro hk hbw));have HIH:=lh ih;have HS:=lh (strOf_one r);clear h ih hu hq hr hdig hl hk hbw
   go_enter Tryz.func37,Tryz.ntmps37
   go_wp2_with fail
   go_region_with (first | (go_at_call 37;refine(HIH.o _).mono ?_;rintro e w1 ⟨rfl,hb⟩;(first | (have hcc:=conv_at w1 w.heap.size (48+(r:Int)) (((qa9 hb).1 _ 0 HLK.o.1).trans HLK.o.2.1)) | skip)))
   all_goals
    go_wp2_with fail
    go_ret;refine⟨by rw[HD.o,← HS.o];rfl,?_⟩
    first
     | exact(Below.refl _ _).drew.trans hb
     | exact HLK.o.2.2.trans (hb.mono (Nat.le_of_lt HLK.o.1))
     | exact((Below.refl _ _).drew.trans hb).alloc hb.size _
theorem qp9 (u:Nat) (w:World) (h:u≤18446744073709551615):Calls Tryz.prog 37 #[uv (u:Int)] w fun e w'=>e=.returned (.string (digB u))∧bw w w' :=
 Digits_any 20 u w (by omega) h
theorem dec_neg (m:Nat) (h:0 < m):dec (-(m:Int))=⟨#[45]⟩++digB m:=by
 unfold dec digB Lib.itoa;rw[if_pos (by omega)]
 apply Go.WideShapes.bytes_inj
 simp
theorem digB_dec (m:Nat):dec (m:Int)=digB m:=by
 unfold dec digB Lib.itoa;rw[if_neg (by omega)]
 simp
theorem Decimal_any (n:Int) (h0:-9223372036854775808 < n) (h1:n≤9223372036854775807) (w:World):Calls Tryz.prog 64 #[iv n] w (TxP w (dec n)):=by
 by_cases hn:n < 0
 ·obtain⟨m,hm⟩:∃ m:Nat,n=-(m:Int):=⟨n.natAbs,by omega⟩
  have hm0:0 < m:=by omega
  have hm1:m≤9223372036854775807:=by omega
  have e0:IntKind.i64.wrap (-n)=(m:Int):=by rw[hm];simp only[IntKind.wrap,IntKind.signed,IntKind.bits];simp;omega
  have e1:IntKind.u64.wrap (m:Int)=(m:Int):=by simp only[IntKind.wrap,IntKind.signed,IntKind.bits];simp;omega
  have q0:decide (n < 0)=true:=decide_eq_true hn;have hd:=dec_neg m hm0;rw[← hm] at hd;have HD:=lh hd;have hsz:=digB_size m (by omega);have hs:¬ 9223372036854775807 < 1+(digB m).size:=by omega
  have HM:=lh hm1;clear hm hd hsz hm0 hm1 h0 h1 hn
  go_enter Tryz.func64,Tryz.ntmps64
  go_wp2_with fail
  refine(qp9 m _ (by have:=HM.o;omega)).mono ?_;rintro e w' ⟨rfl,hb⟩
  go_wp2_with fail
  go_ret;exact⟨by rw[HD.o];rfl,hb⟩
 ·obtain⟨m,rfl⟩:=Int.eq_ofNat_of_zero_le (show 0≤n by omega);have hm1:m≤9223372036854775807:=by omega
  have e1:IntKind.u64.wrap (m:Int)=(m:Int):=by simp only[IntKind.wrap,IntKind.signed,IntKind.bits];simp;omega
  have HD:=lh (digB_dec m);have HM:=lh hm1;clear hm1 h0 h1 hn
  go_enter Tryz.func64,Tryz.ntmps64
  go_wp2_with fail
  refine(qp9 m _ (by have:=HM.o;omega)).mono ?_;rintro e w' ⟨rfl,hb⟩
  go_wp2_with fail
  go_ret;exact⟨by rw[HD.o];rfl,hb⟩
end
section
open Go.RowKit Go.Sort
attribute [local go_sem] Oper.semAt_some
theorem qe2 {u:Int} (h:P64 u) (w:World):Calls Tryz.prog 37 #[uv u] w (TxP w (dec u)):=by
 obtain⟨m,rfl⟩:=Int.eq_ofNat_of_zero_le h.1;have:=h.2;rw[digB_dec];exact qp9 m w (by omega)
theorem qq4 {u:Int} (h:P64 u):IntKind.u64.wrap u=u:=by
 have:=h.1;have:=h.2;simp only[IntKind.wrap,IntKind.signed,IntKind.bits];simp;omega
theorem qp8 {a b:Int} (hv:idV a b=true) (w:World):Calls Tryz.prog 38 #[.agg #[iv a,iv b]] w (TxP w (idT a b)):=by
 have hab:1≤a∧a≤8∧1≤b∧b≤1099511627775:=of_decide_eq_true hv
 have pa:P64 a:=⟨by omega,by omega⟩
 have pb:P64 b:=⟨by omega,by omega⟩
 have e1:=qq4 pa;have e2:=qq4 pb
 obtain⟨W,hW⟩:∃ W,W=w.alloc (.cells #[iv a,iv b] 24):=⟨_,rfl⟩
 obtain⟨g,hg⟩:∃ g,g=w.heap.size:=⟨_,rfl⟩
 have hb0:bw w W:=by rw[hW];exact qa2 _ _
 have hk0:Bk W g 24 #[iv a,iv b]:=by rw[hW,hg];exact Bk.new _ _ _
 have HB0:=lh hb0
 obtain⟨T,hT⟩:∃ T,T=idT a b:=⟨_,rfl⟩
 rw[← hT];unfold idT at hT;rw[hv,if_pos rfl] at hT;have HTE:=lh hT;have k0:=cell_regrown (hk0.cell 0);have k1:=cell_regrown (hk0.cell 1);have cA:=fun dd os=>Calls.regrown_of (w:=W) (d:=dd) (os:=os) (qe2 pa (grow (redrawn W dd) os));have cB:=fun dd os=>Calls.regrown_of (w:=W) (d:=dd) (os:=os) (qe2 pb (grow (redrawn W dd) os));have sa:=qb3 pa.1 pa.2;have sb:=qb3 pb.1 pb.2;have s1:¬ 9223372036854775807 < 1+(dec a).size:=by omega
 have s2:¬ 9223372036854775807 < 1+(dec a).size+1:=by omega
 have s3:¬ 9223372036854775807 < 1+(dec a).size+1+(dec b).size:=by omega
 clear hb0 hk0 hv hab hT sa sb
 go_enter Tryz.func38,Tryz.ntmps38
 go_upto_region 1 with fail
 rw[← hW,← hg];clear hW hg;refine wp_region_quiet_below (by kernel_rfl) (by kernel_rfl) ?_
 repeat (quiet_step (first | with_reducible exact cA _ _ | with_reducible exact cB _ _))
 refine wpQuiet_nil ?_;intro w3 hw';have HB3:=lh (HB0.o.trans ((qc4 hw').mono HB0.o.size));clear hw' cA cB k0 k1
 go_wp2_with fail
 go_ret;rw[HTE.o];exact⟨rfl,HB3.o⟩
theorem rfV_int {x:Rf} (h:rfV x=true) (k:x.kind=1):x.weak=false∧-2305843009213693952≤x.int∧x.int≤2305843009213693951:=by
 unfold rfV at h;rw[if_neg (by omega),if_pos k,Bool.and_eq_true] at h;have:=of_decide_eq_true h.2;have h2:=of_decide_eq_true h.1;rw[this];exact⟨rfl,h2⟩
theorem rfV_nil {x:Rf} (h:rfV x=true) (k:x.kind=0):x.weak=false:=by
 unfold rfV at h;rw[if_pos k] at h;rw[of_decide_eq_true h];rfl
theorem rfV_out {x:Rf} (h:rfV x=true) (k:x.kind=3):(1≤x.owner∧x.owner≤8)∧idV x.idm x.ids=true:=by
 unfold rfV at h;rw[if_neg (by omega),if_neg (by omega),if_neg (by omega),if_pos k] at h;simp only[Bool.and_eq_true] at h;exact⟨of_decide_eq_true h.1.1.1.1,h.1.1.1.2⟩
theorem rfV_kind {x:Rf} (h:rfV x=true) (k0:x.kind≠0) (k1:x.kind≠1) (k2:x.kind≠2):x.kind=3:=by
 unfold rfV at h;rw[if_neg k0,if_neg k1,if_neg k2] at h
 by_cases k:x.kind=3
 ·exact k
 ·rw[if_neg k] at h;cases h
theorem qj4 {x:Rf} (h:rfP x) (hv:rfV x=true) (w:World):Calls Tryz.prog 40 #[.agg #[iv x.kind,iv x.int,iv x.owner,uv x.number,iv x.idm,iv x.ids,iv x.cls,.bool x.weak]] w (TxP w (rfT x)):=by
 obtain⟨W,hW⟩:∃ W,W=w.alloc (.cells #[iv x.kind,iv x.int,iv x.owner,uv x.number,iv x.idm,iv x.ids,iv x.cls,.bool x.weak] 26):=⟨_,rfl⟩
 obtain⟨g,hg⟩:∃ g,g=w.heap.size:=⟨_,rfl⟩
 have hb0:bw w W:=by rw[hW];exact qa2 _ _
 have hk0:Bk W g 26 #[iv x.kind,iv x.int,iv x.owner,uv x.number,iv x.idm,iv x.ids,iv x.cls,.bool x.weak]:=by rw[hW,hg];exact Bk.new _ _ _
 have a0:cl W g 0 (iv x.kind):=hk0.cell 0;have a1:cl W g 1 (iv x.int):=hk0.cell 1;have a2:cl W g 2 (iv x.owner):=hk0.cell 2;have a3:cl W g 3 (uv x.number):=hk0.cell 3;have a4:cl W g 4 (iv x.idm):=hk0.cell 4;have a5:cl W g 5 (iv x.ids):=hk0.cell 5;have a7:cl W g 7 (.bool x.weak):=hk0.cell 7;have HB0:=lh hb0;have HK0:=lh hk0
 obtain⟨T,hT⟩:∃ T,T=rfT x:=⟨_,rfl⟩
 rw[← hT];have HTE:=lh hT;have HX:=lh h;have HV:=lh hv;clear hb0 hk0 h hT hv
 go_enter Tryz.func40,Tryz.ntmps40
 go_upto_region 1 with fail
 rw[← hW,← hg];clear hW hg
 by_cases k1:x.kind=1
 ·obtain⟨hw,hi0,hi1⟩:=rfV_int HV.o k1;have HE:Hid (T=dec x.int):=lh (by rw[HTE.o];unfold rfT rfB;rw[hw,if_neg (by decide),if_pos k1]);have cF:=Decimal_any x.int (by omega) (by omega) W;rw[k1] at a0;rw[hw] at a7;clear k1 hw hi0 hi1
  go_wp2_with fail
  refine cF.mono ?_;rintro e w2 ⟨rfl,hb2⟩;have HB2:=lh (HB0.o.trans (hb2.mono HB0.o.size));clear cF hb2 a0 a1 a2 a3 a4 a5 a7
  go_wp2_with fail
  go_ret;rw[HE.o];exact⟨rfl,HB2.o⟩
 by_cases k0:x.kind=0
 ·have hw:=rfV_nil HV.o k0;have HE:Hid (T=⟨#[110,105,108]⟩):=lh (by rw[HTE.o];unfold rfT rfB;rw[hw,if_neg (by decide),if_neg k1,if_neg (by omega),if_neg (by omega)]);rw[k0] at a0;rw[hw] at a7;clear k1 k0 hw
  go_wp2_with fail
  go_ret;rw[HE.o];exact⟨rfl,HB0.o⟩
 by_cases k2:x.kind=2
 ·have hB:rfB x=⟨#[104,111,109,101,32]⟩++dec x.number:=by unfold rfB;rw[if_neg k1,if_pos k2]
  have HBB:=lh hB;have sd:=qb3 HX.o.2.2.2.2.1.1 HX.o.2.2.2.2.1.2;have s0:¬ 9223372036854775807 < 5+(dec x.number).size:=by omega
  have s1:¬ 9223372036854775807 < 10+(dec x.number).size:=by omega
  have s2:¬ 9223372036854775807 < 5+5+(dec x.number).size:=by omega
  have s3:¬ 9223372036854775807 < 0+5+(dec x.number).size:=by omega
  rw[k2] at a0;have cF:=qe2 HX.o.2.2.2.2.1 W;clear hB k1 k2 k0 sd
  cases hw:x.weak with
  | true =>
   rw[hw] at a7;have HE:Hid (T=⟨#[119,101,97,107,32]⟩++(⟨#[104,111,109,101,32]⟩++dec x.number)):=lh (by rw[HTE.o];unfold rfT;rw[hw,if_pos rfl,HBB.o]);clear hw
   go_wp2_with fail
   refine cF.mono ?_;rintro e w2 ⟨rfl,hb2⟩;have HB2:=lh (HB0.o.trans (hb2.mono HB0.o.size));clear cF hb2 a0 a1 a2 a3 a4 a5 a7
   go_wp2_with fail
   go_ret;refine⟨cgs ?_,HB2.o⟩;rw[HE.o]
   apply Go.WideShapes.bytes_inj
   simp
  | false =>
   rw[hw] at a7;have HE:Hid (T=(⟨#[104,111,109,101,32]⟩++dec x.number)):=lh (by rw[HTE.o];unfold rfT;rw[hw,if_neg (by decide),HBB.o]);clear hw
   go_wp2_with fail
   refine cF.mono ?_;rintro e w2 ⟨rfl,hb2⟩;have HB2:=lh (HB0.o.trans (hb2.mono HB0.o.size));clear cF hb2 a0 a1 a2 a3 a4 a5 a7
   go_wp2_with fail
   go_ret;refine⟨cgs ?_,HB2.o⟩;rw[HE.o]
   apply Go.WideShapes.bytes_inj
   simp
 ·have k3:=rfV_kind HV.o k0 k1 k2;obtain⟨ho,hid⟩:=rfV_out HV.o k3
  have po:P64 x.owner:=⟨by omega,by omega⟩
  have eo:=qq4 po;have hB:rfB x=⟨#[111,117,116,32]⟩++dec x.owner++⟨#[47]⟩++dec x.number++⟨#[32]⟩++idT x.idm x.ids:=by unfold rfB;rw[if_neg k1,if_neg k2,if_pos k3]
  have HBB:=lh hB;have sd:=qb3 HX.o.2.2.2.2.1.1 HX.o.2.2.2.2.1.2;have so:=qb3 po.1 po.2;have si:=qi1 HX.o.2.2.2.2.2.1 HX.o.2.2.2.2.2.2;rw[k3] at a0;have cA:=fun dd os=>Calls.regrown_of (w:=W) (d:=dd) (os:=os) (qe2 po (grow (redrawn W dd) os));have cB:=fun dd os=>Calls.regrown_of (w:=W) (d:=dd) (os:=os) (qe2 HX.o.2.2.2.2.1 (grow (redrawn W dd) os));have cC:=fun dd os=>Calls.regrown_of (w:=W) (d:=dd) (os:=os) (qp8 hid (grow (redrawn W dd) os));have ka2:=cell_regrown a2;have ka3:=cell_regrown a3;have ka4:=cell_regrown a4;have ka5:=cell_regrown a5;clear hB k1 k2 k3 k0 ho hid
  cases hw:x.weak with
  | true =>
   rw[hw] at a7;have HE:Hid (T=⟨#[119,101,97,107,32]⟩++rfB x):=lh (by rw[HTE.o];unfold rfT;rw[hw,if_pos rfl]);have s0:¬ 9223372036854775807 < 9+(dec x.owner).size:=by omega
   have s1:¬ 9223372036854775807 < 9+(dec x.owner).size+1:=by omega
   have s2:¬ 9223372036854775807 < 9+(dec x.owner).size+1+(dec x.number).size:=by omega
   have s3:¬ 9223372036854775807 < 9+(dec x.owner).size+1+(dec x.number).size+1:=by omega
   have s4:¬ 9223372036854775807 < 9+(dec x.owner).size+1+(dec x.number).size+1+(idT x.idm x.ids).size:=by omega
   clear hw sd so si
   go_upto_region 10 with fail
   clear a0 a1 a2 a3 a4 a5 a7;refine wp_region_quiet_below (by kernel_rfl) (by kernel_rfl) ?_
   repeat (quiet_step (first | with_reducible exact cA _ _ | with_reducible exact cB _ _ | with_reducible exact cC _ _))
   refine wpQuiet_nil ?_;intro w2 hw';have HB2:=lh (HB0.o.trans ((qc4 hw').mono HB0.o.size));clear hw' cA cB cC ka2 ka3 ka4 ka5
   go_wp2_with fail
   go_ret;refine⟨cgs ?_,HB2.o⟩;rw[HE.o,HBB.o]
   apply Go.WideShapes.bytes_inj
   simp
  | false =>
   rw[hw] at a7;have HE:Hid (T=rfB x):=lh (by rw[HTE.o];unfold rfT;rw[hw,if_neg (by decide)]);have s0:¬ 9223372036854775807 < 4+(dec x.owner).size:=by omega
   have s1:¬ 9223372036854775807 < 4+(dec x.owner).size+1:=by omega
   have s2:¬ 9223372036854775807 < 4+(dec x.owner).size+1+(dec x.number).size:=by omega
   have s3:¬ 9223372036854775807 < 4+(dec x.owner).size+1+(dec x.number).size+1:=by omega
   have s4:¬ 9223372036854775807 < 4+(dec x.owner).size+1+(dec x.number).size+1+(idT x.idm x.ids).size:=by omega
   clear hw sd so si
   go_upto_region 10 with fail
   clear a0 a1 a2 a3 a4 a5 a7;refine wp_region_quiet_below (by kernel_rfl) (by kernel_rfl) ?_
   repeat (quiet_step (first | with_reducible exact cA _ _ | with_reducible exact cB _ _ | with_reducible exact cC _ _))
   refine wpQuiet_nil ?_;intro w2 hw';have HB2:=lh (HB0.o.trans ((qc4 hw').mono HB0.o.size));clear hw' cA cB cC ka2 ka3 ka4 ka5
   go_wp2_with fail
   go_ret;refine⟨cgs ?_,HB2.o⟩;rw[HE.o,HBB.o]
   apply Go.WideShapes.bytes_inj
   simp
end
section
open Go.RowKit Go.Sort
attribute [local go_sem] Oper.semAt_some
theorem jn_nil:jn []=⟨#[]⟩:=rfl
theorem jn_one (y:ByteArray):jn [y]=y:=by
 unfold jn
 apply Go.WideShapes.bytes_inj
 simp[Lib.join_one]
theorem jn_snoc (x:ByteArray) (r:List ByteArray) (y:ByteArray):jn (x::r++[y])=jn (x::r)++⟨#[44,32]⟩++y:=by
 unfold jn
 apply Go.WideShapes.bytes_inj
 simp[Lib.join_cons,Lib.joinTail]
def lsS (l:List Rf) (k:Nat):ByteArray:=⟨#[40]⟩++jn ((l.take k).map rfT)
theorem lsS_zero (l:List Rf):lsS l 0=⟨#[40]⟩:=by
 unfold lsS
 apply Go.WideShapes.bytes_inj
 simp[jn_nil]
theorem lsS_one {l:List Rf} {x:Rf} (h:l[0]?=some x):lsS l 1=lsS l 0++rfT x:=by
 rw[lsS_zero];unfold lsS;rw[show(l.take 1)=[x] from by rw[List.take_add_one,h];simp,List.map_cons,List.map_nil,jn_one]
theorem lsS_succ {l:List Rf} {k:Nat} {x:Rf} (h:l[k]?=some x) (hk:0 < k):lsS l (k+1)=lsS l k++⟨#[44,32]⟩++rfT x:=by
 unfold lsS
 obtain⟨a,r,hr⟩:∃ a r,l.take k=a::r:=by
  have hl:k < l.length:=(List.getElem?_eq_some_iff.1 h).1
  cases hc:l.take k with
  | nil=>exact absurd (congrArg List.length hc) (by rw[List.length_take,List.length_nil];omega)
  | cons a r=>exact⟨a,r,rfl⟩
 rw[List.take_add_one,h,hr];simp only[Option.toList_some,List.map_append,List.map_cons,List.map_nil];rw[jn_snoc]
 apply Go.WideShapes.bytes_inj
 simp
theorem lsS_size {l:List Rf} (hl:l.length≤1024) (h:∀ x∈l,rfP x) (k:Nat):(lsS l k).size≤101400:=by
 have h1:=lsT_size (l:=l.take k) (by rw[List.length_take];omega) (fun x hx=>h x (List.mem_of_mem_take hx));unfold lsS;rw[ByteArray.size_append];have:(⟨#[40]⟩:ByteArray).size=1:=rfl
 omega
theorem RList_any {A:Option Addr} {c:Nat} {l:List Rf} {w:World} (h:LsI (qa6 rfC) 26 8 w A c l) (hl:l.length≤1024) (hp:∀ x∈l,rfP x) (hv:∀ x∈l,rfV x=true):Calls Tryz.prog 39 #[.slice A l.length c] w (TxP w (lsT l)):=by
 have h1:=h.le.1;have h2:=h.le.2;have H:=lh h;have HP:=lh hp;have HV:=lh hv;have HL:=lh hl;have HBE:=lh (Below.refl w.heap.size w)
 obtain⟨T,hT⟩:∃ T,T=lsT l:=⟨_,rfl⟩
 rw[← hT];have HTE:=lh hT;have HZ:=lh (lsS_zero l);clear h hp hv hT hl
 go_enter Tryz.func39,Tryz.ntmps39
 go_wp2_with fail
 go_loopw [3,4] (fun v ix wr=>∃ k:Nat,ix=iv (k:Int)∧k≤l.length∧v=.string (lsS l k)∧bw w wr) (fun _ ix _=>l.length - (intOf ix).toNat)
 case atStart=>exact⟨0,rfl,Nat.zero_le _,by rw[HZ.o],HBE.o⟩
 case round =>
  obtain⟨k,rfl,hk,rfl,hB⟩:=hrel;have HB:=lh hB;clear hB;have hsz:=lsS_size HL.o HP.o k
  obtain⟨s,hs⟩:∃ s,s=lsS l k:=⟨_,rfl⟩
  rw[← hs] at hsz ⊢;have HS:=lh hs;clear hs
  by_cases hlt:k < l.length
  ·obtain⟨x,hx⟩:∃ x,l[k]?=some x:=⟨_,List.getElem?_eq_getElem hlt⟩
   obtain⟨b,o,r,hA,_,hr,hcell⟩:=H.o.get hx;subst hA;have e0:cl wr b (o+k*8) (iv x.kind):=(qa9 HB.o).1 _ _ (qa4 (hcell 0 _ (by rw[hr];rfl))) |>.trans (hcell 0 _ (by rw[hr];rfl));have e1:cl wr b (o+k*8+1) (iv x.int):=(qa9 HB.o).1 _ _ (qa4 (hcell 1 _ (by rw[hr];rfl))) |>.trans (hcell 1 _ (by rw[hr];rfl));have e2:cl wr b (o+k*8+2) (iv x.owner):=(qa9 HB.o).1 _ _ (qa4 (hcell 2 _ (by rw[hr];rfl))) |>.trans (hcell 2 _ (by rw[hr];rfl));have e3:cl wr b (o+k*8+3) (uv x.number):=(qa9 HB.o).1 _ _ (qa4 (hcell 3 _ (by rw[hr];rfl))) |>.trans (hcell 3 _ (by rw[hr];rfl));have e4:cl wr b (o+k*8+4) (iv x.idm):=(qa9 HB.o).1 _ _ (qa4 (hcell 4 _ (by rw[hr];rfl))) |>.trans (hcell 4 _ (by rw[hr];rfl));have e5:cl wr b (o+k*8+5) (iv x.ids):=(qa9 HB.o).1 _ _ (qa4 (hcell 5 _ (by rw[hr];rfl))) |>.trans (hcell 5 _ (by rw[hr];rfl));have e6:cl wr b (o+k*8+6) (iv x.cls):=(qa9 HB.o).1 _ _ (qa4 (hcell 6 _ (by rw[hr];rfl))) |>.trans (hcell 6 _ (by rw[hr];rfl));have e7:cl wr b (o+k*8+7) (.bool x.weak):=(qa9 HB.o).1 _ _ (qa4 (hcell 7 _ (by rw[hr];rfl))) |>.trans (hcell 7 _ (by rw[hr];rfl));have hkc:k < c:=by omega
   have HX:=lh hx;have hm:=List.mem_of_getElem? hx;have st:=qi7 (HP.o x hm);have cR:=qj4 (HP.o x hm) (HV.o x hm) wr;have s1:¬ 9223372036854775807 < s.size+2:=by omega
   have s2:¬ 9223372036854775807 < s.size+2+(rfT x).size:=by omega
   have s3:¬ 9223372036854775807 < s.size+(rfT x).size:=by omega
   clear hx hcell hr hm st hsz
   by_cases k0:0 < k
   ·have q0:decide ((k:Int) > 0)=true:=decide_eq_true (by omega);have q1:decide (0 < (k:Int))=true:=decide_eq_true (by omega);have HN:Hid (lsS l (k+1)=s++⟨#[44,32]⟩++rfT x):=lh (by rw[HS.o];exact lsS_succ HX.o k0);have q3:decide (0 < k)=true:=decide_eq_true k0
    go_wp2_with fail
    refine cR.mono ?_;rintro e w2 ⟨rfl,hb2⟩;have HB2:=lh (HB.o.trans (hb2.mono HB.o.size));clear cR hb2 e0 e1 e2 e3 e4 e5 e6 e7
    go_wp2_with fail
    go_roundw
    case rel=>exact⟨k+1,by go_num,hlt,by rw[HN.o],HB2.o⟩
    case measure=>simp[intOf];omega
   ·have q0:decide ((k:Int) > 0)=false:=decide_eq_false (by omega);have q1:decide (0 < (k:Int))=false:=decide_eq_false (by omega);have q3:decide (0 < k)=false:=decide_eq_false k0
    have HN:Hid (lsS l (k+1)=s++rfT x):=lh (by
     obtain rfl:k=0:=by omega
     rw[HS.o];exact lsS_one HX.o)
    go_wp2_with fail
    refine cR.mono ?_;rintro e w2 ⟨rfl,hb2⟩;have HB2:=lh (HB.o.trans (hb2.mono HB.o.size));clear cR hb2 e0 e1 e2 e3 e4 e5 e6 e7
    go_wp2_with fail
    go_roundw
    case rel=>exact⟨k+1,by go_num,hlt,by rw[HN.o],HB2.o⟩
    case measure=>simp[intOf];omega
  ·obtain rfl:k=l.length:=by omega
   have s1:¬ 9223372036854775807 < s.size+1:=by omega
   have HE:Hid (T=s++⟨#[41]⟩):=lh (by rw[HTE.o,HS.o];unfold lsT lsS;rw[List.take_length]);clear hsz hlt
   go_wp2_with fail
   go_ret;rw[HE.o];exact⟨rfl,HB.o⟩
end
section
open Go.RowKit Go.Sort
attribute [local go_sem] Oper.semAt_some
theorem RKind_in {k:Nat} (hk:k < 18) (w:World):Calls Tryz.prog 17 #[iv (k:Int)] w (TxP w (kS k)):=by
 have HB:=lh (qa2 w (.cells #[.string (kS 0)] 0));rcases (show k=0 ∨ k=1 ∨ k=2 ∨ k=3 ∨ k=4 ∨ k=5 ∨ k=6 ∨ k=7 ∨ k=8 ∨ k=9 ∨ k=10 ∨ k=11 ∨ k=12 ∨ k=13 ∨ k=14 ∨ k=15 ∨ k=16 ∨ k=17 by omega) with rfl | rfl | rfl | rfl | rfl | rfl | rfl | rfl | rfl | rfl | rfl | rfl | rfl | rfl | rfl | rfl | rfl | rfl
 all_goals
  go_enter Tryz.func17,Tryz.ntmps17
  go_wp2_with fail
  go_ret;exact⟨rfl,qa2 _ _⟩
end
section
open Go.RowKit Go.Sort
attribute [local go_sem] Oper.semAt_some
theorem all_rfV {l:List Rf} (h:l.all plV=true):∀ y∈l,rfV y=true:=fun y hy=>by
 have:=List.all_eq_true.1 h y hy;unfold plV at this;exact(Bool.and_eq_true _ _ ▸ this).1
theorem pc_facts {x:Pc} (h:pcV x=true):idV x.idm x.ids=true∧0≤x.cls∧∀ y∈x.fields,rfV y=true:=by
 unfold pcV at h;rw[Bool.and_eq_true] at h;refine⟨h.1,?_⟩
 have hob:qn8 x=true→0≤x.cls∧∀ y∈x.fields,rfV y=true:=fun ho=>by
  unfold qn8 lmV at ho;simp only[Bool.and_eq_true,decide_eq_true_eq] at ho;exact⟨by omega,all_rfV ho.2.2⟩
 have h2:=h.2
 split at h2
 ·rw[Bool.and_eq_true] at h2;exact hob h2.1
 ·split at h2
  ·rw[Bool.and_eq_true,Bool.and_eq_true] at h2;exact hob h2.1.1
  ·split at h2
   ·rw[Bool.and_eq_true,Bool.and_eq_true] at h2;have hc:x.cls=0:=by simpa using h2.1.1
    refine⟨by omega,?_⟩;have hw:=h2.1.2;unfold wk1 at hw
    split at hw
    ·rename_i f hf
     rw[hf];intro y hy;obtain rfl:=List.mem_singleton.1 hy;unfold wkV at hw;rw[Bool.and_eq_true] at hw;exact hw.1
    ·cases hw
   ·cases h2
theorem ms_facts {x:Ms} (h:msV x=true):∃ k:Nat,x.kind=k∧k < 18∧okV k x=true∧qi6 k x=x:=by
 unfold msV at h;simp only[Bool.and_eq_true,decide_eq_true_eq] at h;exact⟨x.kind.toNat,by omega,by omega,h.1.2,h.2⟩
theorem qs3 {n:Int} (h:ql1 n=true):1≤n∧n≤8:=of_decide_eq_true h
theorem tr_facts {x:Ms} {k:Nat} (hk:k < 18) (hok:okV k x=true) (ho:qi6 k x=x):0≤x.tm∧0≤x.ts:=by
 have htr:trV x=true→0≤x.tm∧0≤x.ts:=fun h=>by
  unfold trV at h;rw[Bool.and_eq_true] at h;have:=qs3 h.1;have:=of_decide_eq_true h.2
  omega
 have hz:(qi6 k x).tm=0∧(qi6 k x).ts=0→0≤x.tm∧0≤x.ts:=fun h=>by rw[ho] at h;omega
 rcases (show k=0 ∨ k=1 ∨ k=2 ∨ k=3 ∨ k=4 ∨ k=5 ∨ k=6 ∨ k=7 ∨ k=8 ∨ k=9 ∨ k=10 ∨ k=11 ∨ k=12 ∨ k=13 ∨ k=14 ∨ k=15 ∨ k=16 ∨ k=17 by omega) with rfl | rfl | rfl | rfl | rfl | rfl | rfl | rfl | rfl | rfl | rfl | rfl | rfl | rfl | rfl | rfl | rfl | rfl
 ·exact hz ⟨rfl,rfl⟩
 ·exact hz ⟨rfl,rfl⟩
 ·exact hz ⟨rfl,rfl⟩
 ·exact hz ⟨rfl,rfl⟩
 ·exact hz ⟨rfl,rfl⟩
 ·exact hz ⟨rfl,rfl⟩
 ·exact hz ⟨rfl,rfl⟩
 ·exact hz ⟨rfl,rfl⟩
 ·exact htr (by have h8:ok8 x=true:=hok;unfold ok8 at h8;rw[Bool.and_eq_true] at h8;exact h8.1)
 ·exact htr (by have h8:ok9 x=true:=hok;unfold ok9 at h8;rw[Bool.and_eq_true] at h8;exact h8.1)
 ·exact htr (by have h8:ql2 x=true:=hok;unfold ql2 at h8;rw[Bool.and_eq_true] at h8;exact h8.1)
 ·exact htr hok
 ·exact htr hok
 ·exact htr hok
 ·exact htr hok
 ·exact hz ⟨rfl,rfl⟩
 ·exact hz ⟨rfl,rfl⟩
 ·exact hz ⟨rfl,rfl⟩
theorem RFormat_of {w:World} {x:Ms} {r:List Value} (h:MsI w x r) (hx:msP x) (hV:∀ V,bw w V→Calls Tryz.prog 36 #[.agg r.toArray] V (qe7 V (msV x))):Calls Tryz.prog 19 #[.agg r.toArray] w (TxP w (fmtV x)):=by
 have hsz:r.toArray.toList.length=39:=h.len;have hkd:=h.kind;obtain⟨A1,c1,A2,c2,A3,c3,A4,c4,A5,c5,A6,c6,A7,c7,A8,c8,hr,hl1,hl2,hl3,hl4,hl5,hl6,hl7,hl8⟩:=h
 obtain⟨M,hM⟩:∃ M,M=r.toArray:=⟨_,rfl⟩
 rw[← hM] at hsz hkd hV ⊢;rw[hr] at hM;clear hr hl3 hl4 hl5 hl6 hl7 hl8;have HSZ:=lh hsz;have HKD:=lh hkd;have HM:=lh hM;have HX:=lh hx
 obtain⟨W,hW⟩:∃ W,W=w.alloc (.cells M 42):=⟨_,rfl⟩
 obtain⟨g,hg⟩:∃ g,g=w.heap.size:=⟨_,rfl⟩
 have hb0:bw w W:=by rw[hW];exact qa2 _ _
 have hk0:Bk W g 42 M:=by rw[hW,hg];exact Bk.new _ _ _
 have HB0:=lh hb0;have HK0:=lh hk0;have HL1:Hid (LsI (qa6 rfC) 26 8 w A1 c1 x.letter.args):=lh (show LsI (qa6 rfC) 26 8 w A1 c1 x.letter.args from hl1);have HL2:Hid (LsI (qa6 rfC) 26 8 w A2 c2 x.parcel.fields):=lh (show LsI (qa6 rfC) 26 8 w A2 c2 x.parcel.fields from hl2);have cV:=hV W hb0
 obtain⟨T,hT⟩:∃ T,T=fmtV x:=⟨_,rfl⟩
 rw[← hT];unfold fmtV at hT;clear hb0 hk0 hM hx hsz hkd hV hl1 hl2
 go_enter Tryz.func19,Tryz.ntmps19
 go_upto_region 1 with fail
 rw[← hW,← hg];clear hW hg;refine wp_region_list ?_;refine wpList_load_mid rfl _ _ rfl g 0 rfl M.toList _ HK0.o.rng rfl rfl (by rw[HSZ.o];rfl) ?_;simp only[Array.toArray_toList]
 cases hv:msV x with
 | false =>
  rw[hv] at cV hT;have HTE:Hid (T=⟨#[105,110,118,97,108,105,100]⟩):=lh hT;clear hT hv
  go_wp2_with fail
  refine cV.mono ?_;rintro e w2 ⟨rfl,hb2⟩;have HB2:=lh (HB0.o.trans (hb2.mono HB0.o.size));clear cV hb2
  go_wp2_with fail
  go_ret;rw[HTE.o];exact⟨rfl,HB2.o⟩
 | true =>
  rw[hv,if_pos rfl] at hT;rw[hv] at cV;obtain⟨k,hk,hk18,hok,hon⟩:=ms_facts hv;obtain⟨ht0,ht1⟩:=tr_facts hk18 hok hon;rw[show x.kind.toNat=k by omega] at hT
  have hpt:P64 x.tm:=⟨ht0,by have:=HX.o.2.2.1.2;omega⟩
  have hps:P64 x.ts:=⟨ht1,by have:=HX.o.2.2.2.1.2;omega⟩
  have HTE:=lh hT;have HK:=lh (And.intro hk (And.intro hk18 hok));have HPT:=lh (And.intro hpt hps);clear hT hv hk hk18 hok hon
  go_wp2_with fail
  refine cV.mono ?_;rintro e w2 ⟨rfl,hb2⟩;have HB2:=lh (HB0.o.trans (hb2.mono HB0.o.size));have HK2:=lh (HK0.o.below hb2 HK0.o.lt);clear cV hb2
  go_upto_region 3 with fail
  have et:=qq4 hpt;have es:=qq4 hps;have mt:(if x.tm < 0 then 0 else x.tm)=x.tm:=if_neg (by omega);have zt:=qb3 hpt.1 hpt.2;have zs:=qb3 hps.1 hps.2;have q1:¬ 9223372036854775807 < 1+(dec x.tm).size:=by omega
  have q2:¬ 9223372036854775807 < 1+(dec x.tm).size+1:=by omega
  have q3:¬ 9223372036854775807 < 1+(dec x.tm).size+1+(dec x.ts).size:=by omega
  have b1:max x.tm 0=x.tm:=by omega
  have b2:max x.ts 0=x.ts:=by omega
  clear hpt hps ht0 ht1 zt zs;refine qi5 15 (fun i=>([[],[0],[1],[2],[3],[4],[5],[6],[],[8],[9],[10],[11],[12],[7,13]]:List (List Nat)).getD i []) (EL [Ent.val (pq g 24),Ent.val (pq g 24),Ent.val (iv x.tm),Ent.val (iv x.tm),Ent.val (uv x.tm),Ent.val (.string (dec x.tm)),Ent.val (.string (⟨#[32]⟩++dec x.tm)),Ent.val (.string (⟨#[32]⟩++dec x.tm++⟨#[47]⟩)),Ent.val (pq g 24),Ent.val (pq g 25),Ent.val (iv x.ts),Ent.val (iv x.ts),Ent.val (uv x.ts),Ent.val (.string (dec x.ts)),Ent.val (.string (⟨#[32]⟩++dec x.tm++⟨#[47]⟩++dec x.ts))]) (by kernel_rfl) (by kernel_rfl) (by kernel_rfl) (by kernel_rfl) (by rfl) ?_ ?_
  ·intro i hi o ho vs w3 hb1 hgr;rcases (show i=0 ∨ i=1 ∨ i=2 ∨ i=3 ∨ i=4 ∨ i=5 ∨ i=6 ∨ i=7 ∨ i=8 ∨ i=9 ∨ i=10 ∨ i=11 ∨ i=12 ∨ i=13 ∨ i=14 by omega) with rfl | rfl | rfl | rfl | rfl | rfl | rfl | rfl | rfl | rfl | rfl | rfl | rfl | rfl | rfl <;> cases ho
   ·clear hgr;change Made _ (qf6 _ _ _) (Sem.run _ (execOp (Act.eval (frm _ _ _ [])) _) _);simp only[frm];go_simp;exact qb5 rfl
   ·have h0:vs 0=_:=hgr 0 (by decide);clear hgr;change Made _ (qf6 _ _ _) (Sem.run _ (execOp (Act.eval (Act.put (frm _ _ _ []) (some 8) (vs 0))) _) _);simp only[frm,h0];go_simp;exact qb5 rfl
   ·have h1:vs 1=_:=hgr 1 (by decide);clear hgr;change Made _ (qf6 _ _ _) (Sem.run _ (execOp (Act.eval (Act.put (frm _ _ _ []) (some 9) (vs 1))) _) _);simp only[frm,h1];have c0:cl w3 g 24 (iv x.tm):=((HK2.o.below hb1 HK2.o.lt).cell 24).trans (by rw[HM.o];rfl);go_simp;exact qb5 rfl
   ·have h2:vs 2=_:=hgr 2 (by decide);clear hgr;change Made _ (qf6 _ _ _) (Sem.run _ (execOp (Act.eval (Act.put (frm _ _ _ []) (some 10) (vs 2))) _) _);simp only[frm,h2];go_simp;exact qb5 (by simp[b1])
   ·have h3:vs 3=_:=hgr 3 (by decide);clear hgr;change Made _ (qf6 _ _ _) (Sem.run _ (execOp (Act.eval (Act.put (frm _ _ _ []) (some 11) (vs 3))) _) _);simp only[frm,h3];go_simp;exact qb5 (by simp[et])
   ·have h4:vs 4=_:=hgr 4 (by decide);clear hgr;change Made _ (qf6 _ _ _) (Sem.run _ (execOp (Act.eval (Act.put (frm _ _ _ []) (some 12) (vs 4))) _) _);simp only[frm,h4];have cM:=qe2 HPT.o.1 w3;go_simp;exact qc3 cM
   ·have h5:vs 5=_:=hgr 5 (by decide);clear hgr;change Made _ (qf6 _ _ _) (Sem.run _ (execOp (Act.eval (Act.put (frm _ _ _ []) (some 13) (vs 5))) _) _);simp only[frm,h5];go_simp;exact qb5 rfl
   ·have h6:vs 6=_:=hgr 6 (by decide);clear hgr;change Made _ (qf6 _ _ _) (Sem.run _ (execOp (Act.eval (Act.put (frm _ _ _ []) (some 14) (vs 6))) _) _);simp only[frm,h6];go_simp;exact qb5 rfl
   ·clear hgr;change Made _ (qf6 _ _ _) (Sem.run _ (execOp (Act.eval (frm _ _ _ [])) _) _);simp only[frm];go_simp;exact qb5 rfl
   ·have h8:vs 8=_:=hgr 8 (by decide);clear hgr;change Made _ (qf6 _ _ _) (Sem.run _ (execOp (Act.eval (Act.put (frm _ _ _ []) (some 16) (vs 8))) _) _);simp only[frm,h8];go_simp;exact qb5 rfl
   ·have h9:vs 9=_:=hgr 9 (by decide);clear hgr;change Made _ (qf6 _ _ _) (Sem.run _ (execOp (Act.eval (Act.put (frm _ _ _ []) (some 17) (vs 9))) _) _);simp only[frm,h9];have c0:cl w3 g 25 (iv x.ts):=((HK2.o.below hb1 HK2.o.lt).cell 25).trans (by rw[HM.o];rfl);go_simp;exact qb5 rfl
   ·have h10:vs 10=_:=hgr 10 (by decide);clear hgr;change Made _ (qf6 _ _ _) (Sem.run _ (execOp (Act.eval (Act.put (frm _ _ _ []) (some 18) (vs 10))) _) _);simp only[frm,h10];go_simp;exact qb5 (by simp[b2])
   ·have h11:vs 11=_:=hgr 11 (by decide);clear hgr;change Made _ (qf6 _ _ _) (Sem.run _ (execOp (Act.eval (Act.put (frm _ _ _ []) (some 19) (vs 11))) _) _);simp only[frm,h11];go_simp;exact qb5 (by simp[es])
   ·have h12:vs 12=_:=hgr 12 (by decide);clear hgr;change Made _ (qf6 _ _ _) (Sem.run _ (execOp (Act.eval (Act.put (frm _ _ _ []) (some 20) (vs 12))) _) _);simp only[frm,h12];have cM:=qe2 HPT.o.2 w3;go_simp;exact qc3 cM
   ·have h7:vs 7=_:=hgr 7 (by decide);have h13:vs 13=_:=hgr 13 (by decide);clear hgr;change Made _ (qf6 _ _ _) (Sem.run _ (execOp (Act.eval (Act.put (Act.put (frm _ _ _ []) (some 21) (vs 13)) (some 15) (vs 7))) _) _);simp only[frm,h7,h13];go_simp;exact qb5 rfl
  intro vs w3 hb1 hall hap;have h14:vs 14=_:=(hall 14 (by omega)).1;clear hall hap;change wpList _ _ _ [_] (Act.put (Act.put (Act.put (Act.put (Act.put (Act.put (Act.put (Act.put (Act.put (Act.put (Act.put (Act.put (Act.put (Act.put (Act.put (frm _ _ _ []) (some 22) (vs 14)) (some 21) (vs 13)) (some 20) (vs 12)) (some 19) (vs 11)) (some 18) (vs 10)) (some 17) (vs 9)) (some 16) (vs 8)) (some 15) (vs 7)) (some 14) (vs 6)) (some 13) (vs 5)) (some 12) (vs 4)) (some 11) (vs 3)) (some 10) (vs 2)) (some 9) (vs 1)) (some 8) (vs 0)) _;simp only[frm,h14];have HB3:=lh (HB2.o.trans (hb1.mono HB2.o.size));have HK3:=lh (HK2.o.below hb1 HK2.o.lt);clear hb1 et es b1 b2 mt q1 q2 q3
  obtain⟨tr,htr⟩:∃ tr,tr=⟨#[32]⟩++dec x.tm++⟨#[47]⟩++dec x.ts:=⟨_,rfl⟩
  rw[← htr];have HTR:Hid (tr=⟨#[32]⟩++trT x):=lh (by rw[htr];unfold trT;apply Go.WideShapes.bytes_inj;simp)
  have ztr:tr.size≤42:=by
   have:=qb3 HPT.o.1.1 HPT.o.1.2;have:=qb3 HPT.o.2.1 HPT.o.2.2;rw[htr];simp only[ByteArray.size_append]
   show 1+(dec x.tm).size+1+(dec x.ts).size≤42
   omega
  clear htr;have hk18:=HK.o.2.1;have hok:=HK.o.2.2
  obtain⟨s0,hs0⟩:∃ s0,s0=kS k:=⟨_,rfl⟩
  have cK:Calls Tryz.prog 17 #[iv (k:Int)] w3 (TxP w3 s0):=by rw[hs0];exact RKind_in hk18 w3
  have zs0:s0.size≤8:=by rw[hs0];exact kS_size hk18
  have hT2:T=s0++txK k x:=by rw[hs0];exact HTE.o
  have a0:cl w3 g 0 (iv (k:Int)):=(HK3.o.cell 0).trans (by rw[← HK.o.1];exact HKD.o);clear hs0 HK HTE
  go_upto_region 5 with (go_at_call 17;refine cK.mono ?_;rintro e w4 ⟨rfl,hb4⟩)
  have HB4:=lh (HB3.o.trans (hb4.mono HB3.o.size));have HK4:=lh (HK3.o.below hb4 HK3.o.lt);replace a0:cl w4 g 0 (iv (k:Int)):=(qa9 hb4).1 _ _ (qa4 a0) |>.trans a0;have ML1:Hid (LsI (qa6 rfC) 26 8 w4 A1 c1 x.letter.args):=lh (LsI.below HL1.o (qa1 rfC) (qa0 rfC) HB4.o);have ML2:Hid (LsI (qa6 rfC) 26 8 w4 A2 c2 x.parcel.fields):=lh (LsI.below HL2.o (qa1 rfC) (qa0 rfC) HB4.o);clear cK hb4 HL1 HL2 HB0 HB2 HB3 HK0 HK2 HK3;rcases (show k=0 ∨ k=1 ∨ k=2 ∨ k=3 ∨ k=4 ∨ k=5 ∨ k=6 ∨ k=7 ∨ k=8 ∨ k=9 ∨ k=10 ∨ k=11 ∨ k=12 ∨ k=13 ∨ k=14 ∨ k=15 ∨ k=16 ∨ k=17 by omega) with rfl | rfl | rfl | rfl | rfl | rfl | rfl | rfl | rfl | rfl | rfl | rfl | rfl | rfl | rfl | rfl | rfl | rfl
  ·clear hk18;have hl:ltV x.letter=true:=hok;unfold ltV at hl;simp only[Bool.and_eq_true] at hl;have oid:=hl.1.1;have orf:=all_rfV hl.2.2;clear hl;have HTE:Hid (T=s0++txK 0 x):=lh hT2;clear hT2 hok;replace a0:cl w4 g 0 (iv 0):=a0;have f1:cl w4 g 1 (uv x.number):=(HK4.o.cell 1).trans (by rw[HM.o];rfl);have f12:cl w4 g 12 (iv x.letter.idm):=(HK4.o.cell 12).trans (by rw[HM.o];rfl);have f13:cl w4 g 13 (iv x.letter.ids):=(HK4.o.cell 13).trans (by rw[HM.o];rfl);have f14:cl w4 g 14 (.string x.letter.meth):=(HK4.o.cell 14).trans (by rw[HM.o];rfl);have f15:cl w4 g 15 (.slice A1 x.letter.args.length c1):=(HK4.o.cell 15).trans (by rw[HM.o];rfl);have z1:(dec x.number).size≤20:=qb3 HX.o.2.2.2.2.1.1 HX.o.2.2.2.2.1.2;have z3:(idT x.letter.idm x.letter.ids).size≤44:=qi1 HX.o.2.2.2.2.2.2.2.1.1 HX.o.2.2.2.2.2.2.2.1.2.1;have z5:x.letter.meth.size≤4096:=by have:(x.letter.meth.size:Int)≤4096:=HX.o.2.2.2.2.2.2.2.1.2.2.1;omega
   have z6:(lsT x.letter.args).size≤101378:=lsT_le (by have:=HX.o.2.2.2.2.2.2.2.1.2.2.2.1;omega) HX.o.2.2.2.2.2.2.2.1.2.2.2.2;have t0:¬ 9223372036854775807 < s0.size+1:=by omega
   have t1:¬ 9223372036854775807 < s0.size+1+(dec x.number).size:=by omega
   have t2:¬ 9223372036854775807 < s0.size+1+(dec x.number).size+1:=by omega
   have t3:¬ 9223372036854775807 < s0.size+1+(dec x.number).size+1+(idT x.letter.idm x.letter.ids).size:=by omega
   have t4:¬ 9223372036854775807 < s0.size+1+(dec x.number).size+1+(idT x.letter.idm x.letter.ids).size+1:=by omega
   have t5:¬ 9223372036854775807 < s0.size+1+(dec x.number).size+1+(idT x.letter.idm x.letter.ids).size+1+x.letter.meth.size:=by omega
   have t6:¬ 9223372036854775807 < s0.size+1+(dec x.number).size+1+(idT x.letter.idm x.letter.ids).size+1+x.letter.meth.size+(lsT x.letter.args).size:=by omega
   have kf1:=cell_regrown f1;have kf12:=cell_regrown f12;have kf13:=cell_regrown f13;have kf14:=cell_regrown f14;have kf15:=cell_regrown f15;have k1:=fun dd os=>Calls.regrown_of (w:=w4) (d:=dd) (os:=os) (qe2 (u:=x.number) HX.o.2.2.2.2.1 (grow (redrawn w4 dd) os));have k3:=fun dd os=>Calls.regrown_of (w:=w4) (d:=dd) (os:=os) (qp8 (a:=x.letter.idm) (b:=x.letter.ids) oid (grow (redrawn w4 dd) os));have k6:=fun dd os=>Calls.regrown_of (w:=w4) (d:=dd) (os:=os) (RList_any (LsI.below ML1.o (qa1 rfC) (qa0 rfC) (below_regrown w4 dd os)) (by have:=HX.o.2.2.2.2.2.2.2.1.2.2.2.1;omega) HX.o.2.2.2.2.2.2.2.1.2.2.2.2 orf)
   go_upto_region 7 with fail
   clear a0 f1 f12 f13 f14 f15;refine wp_region_quiet_below (by kernel_rfl) (by kernel_rfl) ?_
   repeat (quiet_step (first | with_reducible exact k1 _ _ | with_reducible exact k3 _ _ | with_reducible exact k6 _ _))
   refine wpQuiet_nil ?_;intro w5 hw';have HB5:=lh (HB4.o.trans ((qc4 hw').mono HB4.o.size));clear hw' k1 k3 k6 kf1 kf12 kf13 kf14 kf15
   go_wp2_with fail
   go_ret;refine⟨cgs ?_,HB5.o⟩;rw[HTE.o];simp only[txK]
   all_goals (apply Go.WideShapes.bytes_inj;simp)
  ·clear hk18;obtain⟨oid,oc,orf⟩:=pc_facts (x:=x.parcel) hok
   have pc:P64 x.parcel.cls:=⟨oc,by have:=HX.o.2.2.2.2.2.2.2.2.1.2.2.2.2.1.2;omega⟩
   have ec:=qq4 pc;clear oc;have HTE:Hid (T=s0++txK 1 x):=lh hT2;clear hT2 hok;replace a0:cl w4 g 0 (iv 1):=a0;have f16:cl w4 g 16 (uv x.parcel.number):=(HK4.o.cell 16).trans (by rw[HM.o];rfl);have f17:cl w4 g 17 (iv x.parcel.idm):=(HK4.o.cell 17).trans (by rw[HM.o];rfl);have f18:cl w4 g 18 (iv x.parcel.ids):=(HK4.o.cell 18).trans (by rw[HM.o];rfl);have f20:cl w4 g 20 (iv x.parcel.cls):=(HK4.o.cell 20).trans (by rw[HM.o];rfl);have f21:cl w4 g 21 (.slice A2 x.parcel.fields.length c2):=(HK4.o.cell 21).trans (by rw[HM.o];rfl);have z1:(dec x.parcel.number).size≤20:=qb3 HX.o.2.2.2.2.2.2.2.2.1.1.1 HX.o.2.2.2.2.2.2.2.2.1.1.2;have z3:(idT x.parcel.idm x.parcel.ids).size≤44:=qi1 HX.o.2.2.2.2.2.2.2.2.1.2.1 HX.o.2.2.2.2.2.2.2.2.1.2.2.1;have z5:(dec x.parcel.cls).size≤20:=qb3 pc.1 pc.2;have z7:(lsT x.parcel.fields).size≤101378:=lsT_le (by have:=HX.o.2.2.2.2.2.2.2.2.1.2.2.2.2.2.1.1;omega) HX.o.2.2.2.2.2.2.2.2.1.2.2.2.2.2.1.2;have t0:¬ 9223372036854775807 < s0.size+1:=by omega
   have t1:¬ 9223372036854775807 < s0.size+1+(dec x.parcel.number).size:=by omega
   have t2:¬ 9223372036854775807 < s0.size+1+(dec x.parcel.number).size+1:=by omega
   have t3:¬ 9223372036854775807 < s0.size+1+(dec x.parcel.number).size+1+(idT x.parcel.idm x.parcel.ids).size:=by omega
   have t4:¬ 9223372036854775807 < s0.size+1+(dec x.parcel.number).size+1+(idT x.parcel.idm x.parcel.ids).size+7:=by omega
   have t5:¬ 9223372036854775807 < s0.size+1+(dec x.parcel.number).size+1+(idT x.parcel.idm x.parcel.ids).size+7+(dec x.parcel.cls).size:=by omega
   have t6:¬ 9223372036854775807 < s0.size+1+(dec x.parcel.number).size+1+(idT x.parcel.idm x.parcel.ids).size+7+(dec x.parcel.cls).size+1:=by omega
   have t7:¬ 9223372036854775807 < s0.size+1+(dec x.parcel.number).size+1+(idT x.parcel.idm x.parcel.ids).size+7+(dec x.parcel.cls).size+1+(lsT x.parcel.fields).size:=by omega
   have kf16:=cell_regrown f16;have kf17:=cell_regrown f17;have kf18:=cell_regrown f18;have kf20:=cell_regrown f20;have kf21:=cell_regrown f21;have k1:=fun dd os=>Calls.regrown_of (w:=w4) (d:=dd) (os:=os) (qe2 (u:=x.parcel.number) HX.o.2.2.2.2.2.2.2.2.1.1 (grow (redrawn w4 dd) os));have k3:=fun dd os=>Calls.regrown_of (w:=w4) (d:=dd) (os:=os) (qp8 (a:=x.parcel.idm) (b:=x.parcel.ids) oid (grow (redrawn w4 dd) os));have k5:=fun dd os=>Calls.regrown_of (w:=w4) (d:=dd) (os:=os) (qe2 (u:=x.parcel.cls) pc (grow (redrawn w4 dd) os));have k7:=fun dd os=>Calls.regrown_of (w:=w4) (d:=dd) (os:=os) (RList_any (LsI.below ML2.o (qa1 rfC) (qa0 rfC) (below_regrown w4 dd os)) (by have:=HX.o.2.2.2.2.2.2.2.2.1.2.2.2.2.2.1.1;omega) HX.o.2.2.2.2.2.2.2.2.1.2.2.2.2.2.1.2 orf)
   go_upto_region 9 with fail
   clear a0 f16 f17 f18 f20 f21;refine wp_region_quiet_below (by kernel_rfl) (by kernel_rfl) ?_
   repeat (quiet_step (first | with_reducible exact k1 _ _ | with_reducible exact k3 _ _ | with_reducible exact k5 _ _ | with_reducible exact k7 _ _))
   refine wpQuiet_nil ?_;intro w5 hw';have HB5:=lh (HB4.o.trans ((qc4 hw').mono HB4.o.size));clear hw' k1 k3 k5 k7 kf16 kf17 kf18 kf20 kf21
   go_wp2_with fail
   go_ret;refine⟨cgs ?_,HB5.o⟩;rw[HTE.o];simp only[txK]
   all_goals (apply Go.WideShapes.bytes_inj;simp)
  ·clear hk18;have hm:=qs3 (show ql1 x.asker=true from hok)
   have pc:P64 x.asker:=⟨by omega,by omega⟩
   have ec:=qq4 pc;clear hm;have HTE:Hid (T=s0++txK 2 x):=lh hT2;clear hT2 hok;replace a0:cl w4 g 0 (iv 2):=a0;have f1:cl w4 g 1 (uv x.number):=(HK4.o.cell 1).trans (by rw[HM.o];rfl);have f2:cl w4 g 2 (iv x.asker):=(HK4.o.cell 2).trans (by rw[HM.o];rfl);have z1:(dec x.number).size≤20:=qb3 HX.o.2.2.2.2.1.1 HX.o.2.2.2.2.1.2;have z3:(dec x.asker).size≤20:=qb3 pc.1 pc.2;have t0:¬ 9223372036854775807 < s0.size+1:=by omega
   have t1:¬ 9223372036854775807 < s0.size+1+(dec x.number).size:=by omega
   have t2:¬ 9223372036854775807 < s0.size+1+(dec x.number).size+5:=by omega
   have t3:¬ 9223372036854775807 < s0.size+1+(dec x.number).size+5+(dec x.asker).size:=by omega
   have kf1:=cell_regrown f1;have kf2:=cell_regrown f2;have k1:=fun dd os=>Calls.regrown_of (w:=w4) (d:=dd) (os:=os) (qe2 (u:=x.number) HX.o.2.2.2.2.1 (grow (redrawn w4 dd) os));have k3:=fun dd os=>Calls.regrown_of (w:=w4) (d:=dd) (os:=os) (qe2 (u:=x.asker) pc (grow (redrawn w4 dd) os))
   go_upto_region 13 with fail
   clear a0 f1 f2;refine wp_region_quiet_below (by kernel_rfl) (by kernel_rfl) ?_
   repeat (quiet_step (first | with_reducible exact k1 _ _ | with_reducible exact k3 _ _))
   refine wpQuiet_nil ?_;intro w5 hw';have HB5:=lh (HB4.o.trans ((qc4 hw').mono HB4.o.size));clear hw' k1 k3 kf1 kf2
   go_wp2_with fail
   go_ret;refine⟨cgs ?_,HB5.o⟩;rw[HTE.o];simp only[txK]
   all_goals (apply Go.WideShapes.bytes_inj;simp)
  ·clear hk18;have hm:=qs3 (show ql1 x.asker=true from hok)
   have pc:P64 x.asker:=⟨by omega,by omega⟩
   have ec:=qq4 pc;clear hm;have HTE:Hid (T=s0++txK 3 x):=lh hT2;clear hT2 hok;replace a0:cl w4 g 0 (iv 3):=a0;have f1:cl w4 g 1 (uv x.number):=(HK4.o.cell 1).trans (by rw[HM.o];rfl);have f2:cl w4 g 2 (iv x.asker):=(HK4.o.cell 2).trans (by rw[HM.o];rfl);have z1:(dec x.number).size≤20:=qb3 HX.o.2.2.2.2.1.1 HX.o.2.2.2.2.1.2;have z3:(dec x.asker).size≤20:=qb3 pc.1 pc.2;have t0:¬ 9223372036854775807 < s0.size+1:=by omega
   have t1:¬ 9223372036854775807 < s0.size+1+(dec x.number).size:=by omega
   have t2:¬ 9223372036854775807 < s0.size+1+(dec x.number).size+5:=by omega
   have t3:¬ 9223372036854775807 < s0.size+1+(dec x.number).size+5+(dec x.asker).size:=by omega
   have kf1:=cell_regrown f1;have kf2:=cell_regrown f2;have k1:=fun dd os=>Calls.regrown_of (w:=w4) (d:=dd) (os:=os) (qe2 (u:=x.number) HX.o.2.2.2.2.1 (grow (redrawn w4 dd) os));have k3:=fun dd os=>Calls.regrown_of (w:=w4) (d:=dd) (os:=os) (qe2 (u:=x.asker) pc (grow (redrawn w4 dd) os))
   go_upto_region 13 with fail
   clear a0 f1 f2;refine wp_region_quiet_below (by kernel_rfl) (by kernel_rfl) ?_
   repeat (quiet_step (first | with_reducible exact k1 _ _ | with_reducible exact k3 _ _))
   refine wpQuiet_nil ?_;intro w5 hw';have HB5:=lh (HB4.o.trans ((qc4 hw').mono HB4.o.size));clear hw' k1 k3 kf1 kf2
   go_wp2_with fail
   go_ret;refine⟨cgs ?_,HB5.o⟩;rw[HTE.o];simp only[txK]
   all_goals (apply Go.WideShapes.bytes_inj;simp)
  ·clear hk18;have hl:ok4 x=true:=hok;unfold ok4 plV at hl;simp only[Bool.and_eq_true] at hl;have orf:=hl.1.1;clear hl;have HTE:Hid (T=s0++txK 4 x):=lh hT2;clear hT2 hok;replace a0:cl w4 g 0 (iv 4):=a0;have f4:cl w4 g 4 (iv x.ref.kind):=(HK4.o.cell 4).trans (by rw[HM.o];rfl);have f5:cl w4 g 5 (iv x.ref.int):=(HK4.o.cell 5).trans (by rw[HM.o];rfl);have f6:cl w4 g 6 (iv x.ref.owner):=(HK4.o.cell 6).trans (by rw[HM.o];rfl);have f7:cl w4 g 7 (uv x.ref.number):=(HK4.o.cell 7).trans (by rw[HM.o];rfl);have f8:cl w4 g 8 (iv x.ref.idm):=(HK4.o.cell 8).trans (by rw[HM.o];rfl);have f9:cl w4 g 9 (iv x.ref.ids):=(HK4.o.cell 9).trans (by rw[HM.o];rfl);have f10:cl w4 g 10 (iv x.ref.cls):=(HK4.o.cell 10).trans (by rw[HM.o];rfl);have f11:cl w4 g 11 (.bool x.ref.weak):=(HK4.o.cell 11).trans (by rw[HM.o];rfl);have z1:(rfT x.ref).size≤97:=qi7 HX.o.2.2.2.2.2.2.1;have t0:¬ 9223372036854775807 < s0.size+1:=by omega
   have t1:¬ 9223372036854775807 < s0.size+1+(rfT x.ref).size:=by omega
   have k1:=qj4 (x:=x.ref) HX.o.2.2.2.2.2.2.1 orf w4
   go_wp2_with fail
   refine k1.mono ?_;rintro e w5 ⟨rfl,hb5⟩;have HB5:=lh (HB4.o.trans (hb5.mono HB4.o.size));clear hb5 k1 a0 f4 f5 f6 f7 f8 f9 f10 f11
   go_wp2_with fail
   go_ret;refine⟨cgs ?_,HB5.o⟩;rw[HTE.o];simp only[txK]
   all_goals (apply Go.WideShapes.bytes_inj;simp)
  ·clear hk18;have HTE:Hid (T=s0++txK 5 x):=lh hT2;clear hT2 hok;replace a0:cl w4 g 0 (iv 5):=a0;have f1:cl w4 g 1 (uv x.number):=(HK4.o.cell 1).trans (by rw[HM.o];rfl);have z1:(dec x.number).size≤20:=qb3 HX.o.2.2.2.2.1.1 HX.o.2.2.2.2.1.2;have t0:¬ 9223372036854775807 < s0.size+1:=by omega
   have t1:¬ 9223372036854775807 < s0.size+1+(dec x.number).size:=by omega
   have k1:=qe2 (u:=x.number) HX.o.2.2.2.2.1 w4
   go_wp2_with fail
   refine k1.mono ?_;rintro e w5 ⟨rfl,hb5⟩;have HB5:=lh (HB4.o.trans (hb5.mono HB4.o.size));clear hb5 k1 a0 f1
   go_wp2_with fail
   go_ret;refine⟨cgs ?_,HB5.o⟩;rw[HTE.o];simp only[txK]
   all_goals (apply Go.WideShapes.bytes_inj;simp)
  ·clear hk18;have hm:=qs3 (show ql1 x.asker=true from hok)
   have pc:P64 x.asker:=⟨by omega,by omega⟩
   have ec:=qq4 pc;clear hm;have HTE:Hid (T=s0++txK 6 x):=lh hT2;clear hT2 hok;replace a0:cl w4 g 0 (iv 6):=a0;have f1:cl w4 g 1 (uv x.number):=(HK4.o.cell 1).trans (by rw[HM.o];rfl);have f2:cl w4 g 2 (iv x.asker):=(HK4.o.cell 2).trans (by rw[HM.o];rfl);have z1:(dec x.number).size≤20:=qb3 HX.o.2.2.2.2.1.1 HX.o.2.2.2.2.1.2;have z3:(dec x.asker).size≤20:=qb3 pc.1 pc.2;have t0:¬ 9223372036854775807 < s0.size+1:=by omega
   have t1:¬ 9223372036854775807 < s0.size+1+(dec x.number).size:=by omega
   have t2:¬ 9223372036854775807 < s0.size+1+(dec x.number).size+5:=by omega
   have t3:¬ 9223372036854775807 < s0.size+1+(dec x.number).size+5+(dec x.asker).size:=by omega
   have kf1:=cell_regrown f1;have kf2:=cell_regrown f2;have k1:=fun dd os=>Calls.regrown_of (w:=w4) (d:=dd) (os:=os) (qe2 (u:=x.number) HX.o.2.2.2.2.1 (grow (redrawn w4 dd) os));have k3:=fun dd os=>Calls.regrown_of (w:=w4) (d:=dd) (os:=os) (qe2 (u:=x.asker) pc (grow (redrawn w4 dd) os))
   go_upto_region 13 with fail
   clear a0 f1 f2;refine wp_region_quiet_below (by kernel_rfl) (by kernel_rfl) ?_
   repeat (quiet_step (first | with_reducible exact k1 _ _ | with_reducible exact k3 _ _))
   refine wpQuiet_nil ?_;intro w5 hw';have HB5:=lh (HB4.o.trans ((qc4 hw').mono HB4.o.size));clear hw' k1 k3 kf1 kf2
   go_wp2_with fail
   go_ret;refine⟨cgs ?_,HB5.o⟩;rw[HTE.o];simp only[txK]
   all_goals (apply Go.WideShapes.bytes_inj;simp)
  ·clear hk18;have hl:ok4 x=true:=hok;unfold ok4 plV at hl;simp only[Bool.and_eq_true] at hl;have orf:=hl.1.1;clear hl;have HTE:Hid (T=s0++txK 7 x):=lh hT2;clear hT2 hok;replace a0:cl w4 g 0 (iv 7):=a0;have f4:cl w4 g 4 (iv x.ref.kind):=(HK4.o.cell 4).trans (by rw[HM.o];rfl);have f5:cl w4 g 5 (iv x.ref.int):=(HK4.o.cell 5).trans (by rw[HM.o];rfl);have f6:cl w4 g 6 (iv x.ref.owner):=(HK4.o.cell 6).trans (by rw[HM.o];rfl);have f7:cl w4 g 7 (uv x.ref.number):=(HK4.o.cell 7).trans (by rw[HM.o];rfl);have f8:cl w4 g 8 (iv x.ref.idm):=(HK4.o.cell 8).trans (by rw[HM.o];rfl);have f9:cl w4 g 9 (iv x.ref.ids):=(HK4.o.cell 9).trans (by rw[HM.o];rfl);have f10:cl w4 g 10 (iv x.ref.cls):=(HK4.o.cell 10).trans (by rw[HM.o];rfl);have f11:cl w4 g 11 (.bool x.ref.weak):=(HK4.o.cell 11).trans (by rw[HM.o];rfl);have z1:(rfT x.ref).size≤97:=qi7 HX.o.2.2.2.2.2.2.1;have t0:¬ 9223372036854775807 < s0.size+1:=by omega
   have t1:¬ 9223372036854775807 < s0.size+1+(rfT x.ref).size:=by omega
   have k1:=qj4 (x:=x.ref) HX.o.2.2.2.2.2.2.1 orf w4
   go_wp2_with fail
   refine k1.mono ?_;rintro e w5 ⟨rfl,hb5⟩;have HB5:=lh (HB4.o.trans (hb5.mono HB4.o.size));clear hb5 k1 a0 f4 f5 f6 f7 f8 f9 f10 f11
   go_wp2_with fail
   go_ret;refine⟨cgs ?_,HB5.o⟩;rw[HTE.o];simp only[txK]
   all_goals (apply Go.WideShapes.bytes_inj;simp)
  ·clear hk18;have hm:=qs3 (show ql1 x.asker=true from (by have h8:ok8 x=true:=hok;unfold ok8 at h8;rw[Bool.and_eq_true] at h8;exact h8.2))
   have pc:P64 x.asker:=⟨by omega,by omega⟩
   have ec:=qq4 pc;clear hm;have HTE:Hid (T=s0++txK 8 x):=lh hT2;clear hT2 hok;replace a0:cl w4 g 0 (iv 8):=a0;have f1:cl w4 g 1 (uv x.number):=(HK4.o.cell 1).trans (by rw[HM.o];rfl);have f2:cl w4 g 2 (iv x.asker):=(HK4.o.cell 2).trans (by rw[HM.o];rfl);have z2:(dec x.number).size≤20:=qb3 HX.o.2.2.2.2.1.1 HX.o.2.2.2.2.1.2;have z4:(dec x.asker).size≤20:=qb3 pc.1 pc.2;have t0:¬ 9223372036854775807 < s0.size+tr.size:=by omega
   have t1:¬ 9223372036854775807 < s0.size+tr.size+1:=by omega
   have t2:¬ 9223372036854775807 < s0.size+tr.size+1+(dec x.number).size:=by omega
   have t3:¬ 9223372036854775807 < s0.size+tr.size+1+(dec x.number).size+4:=by omega
   have t4:¬ 9223372036854775807 < s0.size+tr.size+1+(dec x.number).size+4+(dec x.asker).size:=by omega
   have kf1:=cell_regrown f1;have kf2:=cell_regrown f2;have k2:=fun dd os=>Calls.regrown_of (w:=w4) (d:=dd) (os:=os) (qe2 (u:=x.number) HX.o.2.2.2.2.1 (grow (redrawn w4 dd) os));have k4:=fun dd os=>Calls.regrown_of (w:=w4) (d:=dd) (os:=os) (qe2 (u:=x.asker) pc (grow (redrawn w4 dd) os))
   go_upto_region 20 with fail
   clear a0 f1 f2;refine wp_region_quiet_below (by kernel_rfl) (by kernel_rfl) ?_
   repeat (quiet_step (first | with_reducible exact k2 _ _ | with_reducible exact k4 _ _))
   refine wpQuiet_nil ?_;intro w5 hw';have HB5:=lh (HB4.o.trans ((qc4 hw').mono HB4.o.size));clear hw' k2 k4 kf1 kf2
   go_wp2_with fail
   go_ret;refine⟨cgs ?_,HB5.o⟩;rw[HTE.o,HTR.o];simp only[txK]
   all_goals (apply Go.WideShapes.bytes_inj;simp)
  ·clear hk18;have hl:ok9 x=true:=hok;unfold ok9 anV at hl;simp only[Bool.and_eq_true] at hl;have hm:=qs3 hl.2.1.1.1.1
   have pc:P64 x.answer.machine:=⟨by omega,by omega⟩
   have ec:=qq4 pc;clear hl hm;have HTE:Hid (T=s0++txK 9 x):=lh hT2;clear hT2 hok;replace a0:cl w4 g 0 (iv 9):=a0;have f26:cl w4 g 26 (iv x.answer.machine):=(HK4.o.cell 26).trans (by rw[HM.o];rfl);have z2:(dec x.answer.machine).size≤20:=qb3 pc.1 pc.2;have t0:¬ 9223372036854775807 < s0.size+tr.size:=by omega
   have t1:¬ 9223372036854775807 < s0.size+tr.size+9:=by omega
   have t2:¬ 9223372036854775807 < s0.size+tr.size+9+(dec x.answer.machine).size:=by omega
   have k2:=qe2 (u:=x.answer.machine) pc w4
   go_wp2_with fail
   refine k2.mono ?_;rintro e w5 ⟨rfl,hb5⟩;have HB5:=lh (HB4.o.trans (hb5.mono HB4.o.size));clear hb5 k2 a0 f26
   go_wp2_with fail
   go_ret;refine⟨cgs ?_,HB5.o⟩;rw[HTE.o,HTR.o];simp only[txK]
   all_goals (apply Go.WideShapes.bytes_inj;simp)
  ·clear hk18;have hl:ql2 x=true:=hok;unfold ql2 clV at hl;simp only[Bool.and_eq_true] at hl;have hm:=qs3 hl.2.1.1.1.1
   have pc:P64 x.claim.machine:=⟨by omega,by omega⟩
   have ec:=qq4 pc;clear hl hm;have HTE:Hid (T=s0++txK 10 x):=lh hT2;clear hT2 hok;replace a0:cl w4 g 0 (iv 10):=a0;have f34:cl w4 g 34 (iv x.claim.machine):=(HK4.o.cell 34).trans (by rw[HM.o];rfl);have z2:(dec x.claim.machine).size≤20:=qb3 pc.1 pc.2;have t0:¬ 9223372036854775807 < s0.size+tr.size:=by omega
   have t1:¬ 9223372036854775807 < s0.size+tr.size+9:=by omega
   have t2:¬ 9223372036854775807 < s0.size+tr.size+9+(dec x.claim.machine).size:=by omega
   have k2:=qe2 (u:=x.claim.machine) pc w4
   go_wp2_with fail
   refine k2.mono ?_;rintro e w5 ⟨rfl,hb5⟩;have HB5:=lh (HB4.o.trans (hb5.mono HB4.o.size));clear hb5 k2 a0 f34
   go_wp2_with fail
   go_ret;refine⟨cgs ?_,HB5.o⟩;rw[HTE.o,HTR.o];simp only[txK]
   all_goals (apply Go.WideShapes.bytes_inj;simp)
  ·clear hk18;have HTE:Hid (T=s0++txK 11 x):=lh hT2;clear hT2 hok;replace a0:cl w4 g 0 (iv 11):=a0;have t0:¬ 9223372036854775807 < s0.size+tr.size:=by omega
   go_wp2_with fail
   go_ret;refine⟨cgs ?_,HB4.o⟩;rw[HTE.o,HTR.o];simp only[txK]
   all_goals (apply Go.WideShapes.bytes_inj;simp)
  ·clear hk18;have HTE:Hid (T=s0++txK 12 x):=lh hT2;clear hT2 hok;replace a0:cl w4 g 0 (iv 12):=a0;have t0:¬ 9223372036854775807 < s0.size+tr.size:=by omega
   go_wp2_with fail
   go_ret;refine⟨cgs ?_,HB4.o⟩;rw[HTE.o,HTR.o];simp only[txK]
   all_goals (apply Go.WideShapes.bytes_inj;simp)
  ·clear hk18;have HTE:Hid (T=s0++txK 13 x):=lh hT2;clear hT2 hok;replace a0:cl w4 g 0 (iv 13):=a0;have t0:¬ 9223372036854775807 < s0.size+tr.size:=by omega
   go_wp2_with fail
   go_ret;refine⟨cgs ?_,HB4.o⟩;rw[HTE.o,HTR.o];simp only[txK]
   all_goals (apply Go.WideShapes.bytes_inj;simp)
  ·clear hk18;have HTE:Hid (T=s0++txK 14 x):=lh hT2;clear hT2 hok;replace a0:cl w4 g 0 (iv 14):=a0;have t0:¬ 9223372036854775807 < s0.size+tr.size:=by omega
   go_wp2_with fail
   go_ret;refine⟨cgs ?_,HB4.o⟩;rw[HTE.o,HTR.o];simp only[txK]
   all_goals (apply Go.WideShapes.bytes_inj;simp)
  ·clear hk18;have HTE:Hid (T=s0++txK 15 x):=lh hT2;clear hT2 hok;replace a0:cl w4 g 0 (iv 15):=a0
   go_wp2_with fail
   go_ret;refine⟨cgs ?_,HB4.o⟩;rw[HTE.o];simp only[txK]
   all_goals (apply Go.WideShapes.bytes_inj;simp)
  ·clear hk18;have HTE:Hid (T=s0++txK 16 x):=lh hT2;clear hT2 hok;replace a0:cl w4 g 0 (iv 16):=a0
   go_wp2_with fail
   go_ret;refine⟨cgs ?_,HB4.o⟩;rw[HTE.o];simp only[txK]
   all_goals (apply Go.WideShapes.bytes_inj;simp)
  ·clear hk18;have hl:ql4 x=true:=hok;unfold ql4 plV at hl;simp only[Bool.and_eq_true] at hl;have orf:=hl.1.2.1;clear hl;have HTE:Hid (T=s0++txK 17 x):=lh hT2;clear hT2 hok;replace a0:cl w4 g 0 (iv 17):=a0;have f3:cl w4 g 3 (.string x.name):=(HK4.o.cell 3).trans (by rw[HM.o];rfl);have f4:cl w4 g 4 (iv x.ref.kind):=(HK4.o.cell 4).trans (by rw[HM.o];rfl);have f5:cl w4 g 5 (iv x.ref.int):=(HK4.o.cell 5).trans (by rw[HM.o];rfl);have f6:cl w4 g 6 (iv x.ref.owner):=(HK4.o.cell 6).trans (by rw[HM.o];rfl);have f7:cl w4 g 7 (uv x.ref.number):=(HK4.o.cell 7).trans (by rw[HM.o];rfl);have f8:cl w4 g 8 (iv x.ref.idm):=(HK4.o.cell 8).trans (by rw[HM.o];rfl);have f9:cl w4 g 9 (iv x.ref.ids):=(HK4.o.cell 9).trans (by rw[HM.o];rfl);have f10:cl w4 g 10 (iv x.ref.cls):=(HK4.o.cell 10).trans (by rw[HM.o];rfl);have f11:cl w4 g 11 (.bool x.ref.weak):=(HK4.o.cell 11).trans (by rw[HM.o];rfl);have z1:x.name.size≤4096:=by have:(x.name.size:Int)≤4096:=HX.o.2.2.2.2.2.1;omega
   have z3:(rfT x.ref).size≤97:=qi7 HX.o.2.2.2.2.2.2.1;have t0:¬ 9223372036854775807 < s0.size+1:=by omega
   have t1:¬ 9223372036854775807 < s0.size+1+x.name.size:=by omega
   have t2:¬ 9223372036854775807 < s0.size+1+x.name.size+1:=by omega
   have t3:¬ 9223372036854775807 < s0.size+1+x.name.size+1+(rfT x.ref).size:=by omega
   have kf3:=cell_regrown f3;have kf4:=cell_regrown f4;have kf5:=cell_regrown f5;have kf6:=cell_regrown f6;have kf7:=cell_regrown f7;have kf8:=cell_regrown f8;have kf9:=cell_regrown f9;have kf10:=cell_regrown f10;have kf11:=cell_regrown f11;have k3:=fun dd os=>Calls.regrown_of (w:=w4) (d:=dd) (os:=os) (qj4 (x:=x.ref) HX.o.2.2.2.2.2.2.1 orf (grow (redrawn w4 dd) os))
   go_upto_region 29 with fail
   clear a0 f3 f4 f5 f6 f7 f8 f9 f10 f11;refine wp_region_quiet_below (by kernel_rfl) (by kernel_rfl) ?_
   repeat (quiet_step (first | with_reducible exact k3 _ _))
   refine wpQuiet_nil ?_;intro w5 hw';have HB5:=lh (HB4.o.trans ((qc4 hw').mono HB4.o.size));clear hw' k3 kf3 kf4 kf5 kf6 kf7 kf8 kf9 kf10 kf11
   go_wp2_with fail
   go_ret;refine⟨cgs ?_,HB5.o⟩;rw[HTE.o];simp only[txK]
   all_goals (apply Go.WideShapes.bytes_inj;simp)
end
section
open Go.RowKit Go.Sort
attribute [local go_sem] Oper.semAt_some
theorem RKind_out {n:Int} (hn:¬ (0≤n∧n < 18)) (w:World):Calls Tryz.prog 17 #[iv n] w (TxP w ⟨#[]⟩):=by
 by_cases hl:n < 0
 ·have q0:decide (n < 0)=true:=decide_eq_true hl;clear hn hl
  go_enter Tryz.func17,Tryz.ntmps17
  go_wp2_with fail
  go_ret;exact⟨rfl,qa2 _ _⟩
 ·have q0:decide (n < 0)=false:=decide_eq_false hl;have q1:decide (n ≥ 18)=true:=decide_eq_true (by omega);have q2:decide (18≤n)=true:=decide_eq_true (by omega);clear hn hl
  go_enter Tryz.func17,Tryz.ntmps17
  go_wp2_with fail
  go_ret;exact⟨rfl,qa2 _ _⟩
end
section
open Go.RowKit Go.Sort
attribute [local go_sem] Oper.semAt_some
theorem RFormat_any {w:World} {x:Ms} {r:List Value} (h:MsI w x r) (hx:msP x):Calls Tryz.prog 19 #[.agg r.toArray] w (TxP w (fmtV x)):=RFormat_of h hx fun V hb=>RValid_any (h.below hb)
theorem RKind_any (n:Int) (w:World):Calls Tryz.prog 17 #[iv n] w (TxP w (kname n)):=by
 unfold kname
 by_cases h:0≤n∧n < 18
 ·rw[if_pos h];have:=RKind_in (k:=n.toNat) (by omega) w;rw[show((n.toNat:Nat):Int)=n by omega] at this;exact this
 ·rw[if_neg h];exact RKind_out h w
end
section
open Go.RowKit Go.Sort
attribute [local go_sem] Oper.semAt_some
theorem LTxt_any {w:World} {x:Ms} {r:List Value} (h:MsI w x r) (hxt:msT x) (n:Int) (ht:Tb w):Calls Tryz.prog 6 #[.agg r.toArray,iv n] w (qe7 w true):=by
 have hsz:r.toArray.toList.length=39:=h.len
 obtain⟨M,hM⟩:∃ M,M=r.toArray:=⟨_,rfl⟩
 rw[← hM] at hsz ⊢;have HM:=lh hM;have HSZ:=lh hsz
 obtain⟨W,hW⟩:∃ W,W=w.alloc (.cells M 42):=⟨_,rfl⟩
 obtain⟨g,hg⟩:∃ g,g=w.heap.size:=⟨_,rfl⟩
 have hb0:bw w W:=by rw[hW];exact qa2 _ _
 have HK0:Hid (Bk W g 42 M):=lh (by rw[hW,hg];exact Bk.new _ _ _);have HB0:=lh hb0;have HI0:=lh (h.below hb0);have HT0:=lh (ht.below hb0);have HTT:=lh hxt;clear hb0 h hxt ht hM hsz
 go_enter Tryz.func6,Tryz.ntmps6
 go_upto_region 1 with fail
 rw[← hW,← hg];clear hW hg
 go_wp2_with fail
 refine(awake27 _ HT0.o).mono ?_;rintro e w1 ⟨rfl,hb1⟩;have HB1:=lh (HB0.o.trans (hb1.mono HB0.o.size));have HK1:=lh (HK0.o.below hb1 HK0.o.lt);have HI1:=lh (HI0.o.below hb1);have HT1:=lh (HT0.o.below hb1);clear hb1;have cF:Calls Tryz.prog 11 #[.agg M] w1 (qe7 w1 (fewV x)):=by rw[HM.o];exact Few_any HI1.o
 go_upto_region 3 with fail
 refine wp_region_list ?_;refine wpList_load_mid rfl _ _ rfl g 0 rfl M.toList _ HK1.o.rng rfl rfl (by rw[HSZ.o];rfl) ?_;simp only[Array.toArray_toList]
 cases hf:fewV x with
 | false =>
  rw[hf] at cF;clear hf
  go_wp2_with fail
  refine cF.mono ?_;rintro e w2 ⟨rfl,hb2⟩;have HB2:=lh (HB1.o.trans (hb2.mono HB1.o.size));clear cF hb2
  go_wp2_with fail
  go_ret;exact⟨rfl,HB2.o⟩
 | true =>
  rw[hf] at cF;have HPX:=lh (few_p HTT.o hf);clear hf
  go_wp2_with fail
  refine cF.mono ?_;rintro e w2 ⟨rfl,hb2⟩;have HB2:=lh (HB1.o.trans (hb2.mono HB1.o.size));have HK2:=lh (HK1.o.below hb2 HK1.o.lt);have HI2:=lh (HI1.o.below hb2);have HT2:=lh (HT1.o.below hb2);clear cF hb2
  go_upto_region 5 with fail
  obtain⟨kn,hkn⟩:∃ kn,kn=kname n:=⟨_,rfl⟩
  have HKN:Hid (∀ V,Calls Tryz.prog 16 #[iv n] V (TxP V kn)∧Calls Tryz.prog 17 #[iv n] V (TxP V kn)):=lh fun V=>⟨by rw[hkn];exact KindName_any V n,by rw[hkn];exact RKind_any n V⟩
  obtain⟨fm,hfm⟩:∃ fm,fm=fmtV x:=⟨_,rfl⟩
  have HFM:Hid (∀ V,bw w2 V→Calls Tryz.prog 18 #[.agg M] V (TxP V fm)∧Calls Tryz.prog 19 #[.agg M] V (TxP V fm)):=lh fun V hb=>⟨by rw[hfm,HM.o];exact Format_any (HI2.o.below hb) HPX.o (encMs_le HPX.o) (HT2.o.below hb),by rw[hfm,HM.o];exact RFormat_any (HI2.o.below hb) HPX.o⟩
  clear hkn hfm;refine ql5 12 (fun i=>([[],[0],[],[2],[1,3],[4],[5],[5,6],[5],[5,8],[5,7,9],[5,10]]:List (List Nat)).getD i []) (EL [Ent.val (iv n),Ent.val (.string kn),Ent.val (iv n),Ent.val (.string kn),Ent.val (.bool true),Ent.val (.bool true),Ent.val (.agg M),Ent.val (.string fm),Ent.val (.agg M),Ent.val (.string fm),Ent.val (.bool true),Ent.val (.bool true)]) (by kernel_rfl) (by kernel_rfl) (by kernel_rfl) (by rfl) ?_ ?_ ?_
  ·intro i hi o ho g b hgb vs v w3 hR;rcases (show i=0 ∨ i=1 ∨ i=2 ∨ i=3 ∨ i=4 ∨ i=5 ∨ i=6 ∨ i=7 ∨ i=8 ∨ i=9 ∨ i=10 ∨ i=11 by omega) with rfl | rfl | rfl | rfl | rfl | rfl | rfl | rfl | rfl | rfl | rfl | rfl <;> cases ho <;> first | (cases hgb;exact hR) | cases hgb
  ·intro i hi o ho vs w3 hb1 hgr;rcases (show i=0 ∨ i=1 ∨ i=2 ∨ i=3 ∨ i=4 ∨ i=5 ∨ i=6 ∨ i=7 ∨ i=8 ∨ i=9 ∨ i=10 ∨ i=11 by omega) with rfl | rfl | rfl | rfl | rfl | rfl | rfl | rfl | rfl | rfl | rfl | rfl <;> cases ho
   ·clear hgr;change Made _ (qf6 _ _ _) (Sem.run _ (execOp (Act.eval (frm _ _ _ [])) _) _);simp only[frm];go_simp;exact qb5 rfl
   ·have h0:vs 0=_:=hgr 0 (by decide);clear hgr;change Made _ (qf6 _ _ _) (Sem.run _ (execOp (Act.eval (Act.put (frm _ _ _ []) (some 10) (vs 0))) _) _);simp only[frm,h0];have cM:=(HKN.o w3).1;go_simp;exact qc3 cM
   ·clear hgr;change Made _ (qf6 _ _ _) (Sem.run _ (execOp (Act.eval (frm _ _ _ [])) _) _);simp only[frm];go_simp;exact qb5 rfl
   ·have h2:vs 2=_:=hgr 2 (by decide);clear hgr;change Made _ (qf6 _ _ _) (Sem.run _ (execOp (Act.eval (Act.put (frm _ _ _ []) (some 12) (vs 2))) _) _);simp only[frm,h2];have cM:=(HKN.o w3).2;go_simp;exact qc3 cM
   ·have h1:vs 1=_:=hgr 1 (by decide);have h3:vs 3=_:=hgr 3 (by decide);clear hgr;change Made _ (qf6 _ _ _) (Sem.run _ (execOp (Act.eval (Act.put (Act.put (frm _ _ _ []) (some 13) (vs 3)) (some 11) (vs 1))) _) _);simp only[frm,h1,h3];go_simp;exact qb5 rfl
   ·have h4:vs 4=_:=hgr 4 (by decide);clear hgr;change Made _ (qf6 _ _ _) (Sem.run _ (execOp (Act.eval (Act.put (frm _ _ _ []) (some 14) (vs 4))) _) _);simp only[frm,h4];go_simp;exact qb5 rfl
   ·have h5:vs 5=_:=hgr 5 (by decide);clear hgr;change Made _ (qf6 _ _ _) (Sem.run _ (execOp (Act.eval (Act.put (frm _ _ _ []) (some 15) (vs 5))) _) _);simp only[frm,h5];exact qk1 (P:=Tryz.prog) (ty:=42) (b:=g) (o:=0) (A:=M) (by rfl) (by rfl) (HK2.o.below hb1 HK2.o.lt).rng rfl rfl (by rw[HSZ.o];rfl)
   ·have h5:vs 5=_:=hgr 5 (by decide);have h6:vs 6=_:=hgr 6 (by decide);clear hgr;change Made _ (qf6 _ _ _) (Sem.run _ (execOp (Act.eval (Act.put (Act.put (frm _ _ _ []) (some 16) (vs 6)) (some 15) (vs 5))) _) _);simp only[frm,h5,h6];have cM:=(HFM.o w3 hb1).1;go_simp;exact qc3 cM
   ·have h5:vs 5=_:=hgr 5 (by decide);clear hgr;change Made _ (qf6 _ _ _) (Sem.run _ (execOp (Act.eval (Act.put (frm _ _ _ []) (some 15) (vs 5))) _) _);simp only[frm,h5];exact qk1 (P:=Tryz.prog) (ty:=42) (b:=g) (o:=0) (A:=M) (by rfl) (by rfl) (HK2.o.below hb1 HK2.o.lt).rng rfl rfl (by rw[HSZ.o];rfl)
   ·have h5:vs 5=_:=hgr 5 (by decide);have h8:vs 8=_:=hgr 8 (by decide);clear hgr;change Made _ (qf6 _ _ _) (Sem.run _ (execOp (Act.eval (Act.put (Act.put (frm _ _ _ []) (some 18) (vs 8)) (some 15) (vs 5))) _) _);simp only[frm,h5,h8];have cM:=(HFM.o w3 hb1).2;go_simp;exact qc3 cM
   ·have h5:vs 5=_:=hgr 5 (by decide);have h7:vs 7=_:=hgr 7 (by decide);have h9:vs 9=_:=hgr 9 (by decide);clear hgr;change Made _ (qf6 _ _ _) (Sem.run _ (execOp (Act.eval (Act.put (Act.put (Act.put (frm _ _ _ []) (some 19) (vs 9)) (some 17) (vs 7)) (some 15) (vs 5))) _) _);simp only[frm,h5,h7,h9];go_simp;exact qb5 rfl
   ·have h5:vs 5=_:=hgr 5 (by decide);have h10:vs 10=_:=hgr 10 (by decide);clear hgr;change Made _ (qf6 _ _ _) (Sem.run _ (execOp (Act.eval (Act.put (Act.put (frm _ _ _ []) (some 20) (vs 10)) (some 15) (vs 5))) _) _);simp only[frm,h5,h10];go_simp;exact qb5 rfl
  intro vs w3 hb1 hall hap;have h11:vs 11=_:=(hall 11 (by omega)).1;clear hall hap;change wpList _ _ _ [_] (Act.put (Act.put (Act.put (Act.put (Act.put (Act.put (Act.put (Act.put (Act.put (Act.put (Act.put (Act.put (frm _ _ _ []) (some 21) (vs 11)) (some 20) (vs 10)) (some 19) (vs 9)) (some 18) (vs 8)) (some 17) (vs 7)) (some 16) (vs 6)) (some 15) (vs 5)) (some 14) (vs 4)) (some 13) (vs 3)) (some 12) (vs 2)) (some 11) (vs 1)) (some 10) (vs 0)) _;simp only[frm,h11];have HB3:=lh (HB2.o.trans (hb1.mono HB2.o.size));clear hb1
  go_wp2_with fail
  go_ret;exact⟨rfl,HB3.o⟩
end
end Go.Proofs.YtmbnlccafcfbeaaGreatDoor
