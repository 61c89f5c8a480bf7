/- Parts of the proof: RcTx2, RcTx3, RcTx4. -/
import Derived.BigQuiet
import Derived.Deep.QuietTactic
import Derived.Lib.AppendZerosOnto
import Derived.Test.YtmbnlccafcfbeaaGreatDoorPdA
import Derived.Test.YtmbnlccafcfbeaaGreatDoorPd27
set_option linter.unusedVariables false
set_option linter.unusedSimpArgs false
set_option linter.unusedSectionVars false
set_option maxRecDepth 100000
namespace Go.Proofs.YtmbnlccafcfbeaaGreatDoor
section
open Go.RowKit Go.Sort
attribute [local go_sem] Oper.semAt_some
def idT (a b:Int):ByteArray:=if idV a b=true then ⟨#[109]⟩++dec a++⟨#[58]⟩++dec b else ⟨#[]⟩
theorem quiet_one {w w3:World} (h:∃ p:Regrown,w3=grow (redrawn w p.d) p.os):Below w.heap.size w w3:=by obtain⟨pp,rfl⟩:=h;exact below_regrown _ _ _
set_option maxHeartbeats 2000000 in
theorem IdFmt_any {a b:Int} (ha:I64 a) (hb:I64 b) (w:World) (ht:Tb w):Calls Tryz.prog 77 #[.agg #[.int .i64 a,.int .i64 b]] w (TxP w (idT a b)):=by
 obtain⟨W,hW⟩:∃ W,W=w.alloc (.cells #[.int .i64 a,.int .i64 b] 24):=⟨_,rfl⟩
 obtain⟨g,hg⟩:∃ g,g=w.heap.size:=⟨_,rfl⟩
 have hb0:Below w.heap.size w W:=by rw[hW];exact below_one _ _
 have hk0:Bk W g 24 #[.int .i64 a,.int .i64 b]:=by rw[hW,hg];exact Bk.new _ _ _
 have a0:W.cell? ⟨g,0,none⟩=some (.int .i64 a):=hk0.cell 0
 have a1:W.cell? ⟨g,1,none⟩=some (.int .i64 b):=hk0.cell 1
 have cV:=Idv_any W a b
 have HT:=lh (ht.below hb0)
 have HB0:=lh hb0
 have HK0:=lh hk0
 obtain⟨T,hT⟩:∃ T,T=idT a b:=⟨_,rfl⟩
 rw[← hT]
 unfold idT at hT
 have HAB:=lh (And.intro ha hb)
 clear hb0 hk0 ht ha hb
 go_enter Tryz.func77,Tryz.ntmps77
 go_upto_region 1 with fail
 rw[← hW,← hg]
 clear hW hg
 cases hv:idV a b with
 | false =>
  rw[hv] at cV hT
  have HTE:Hid (T=⟨#[]⟩):=lh hT
  clear hT hv
  go_wp2_with fail
  refine cV.mono ?_
  rintro e w2 ⟨rfl,hb2⟩
  go_wp2_with fail
  go_ret
  rw[HTE.out]
  exact⟨rfl,HB0.out.trans (hb2.mono HB0.out.size)⟩
 | true =>
  rw[hv,if_pos rfl] at hT
  rw[hv] at cV
  have HTE:=lh hT
  clear hT hv
  go_wp2_with fail
  refine cV.mono ?_
  rintro e w2 ⟨rfl,hb2⟩
  have HB2:=lh (HB0.out.trans (hb2.mono HB0.out.size))
  have hk2:=HK0.out.below hb2 HK0.out.lt
  have k0:=cell_regrown (hk2.cell 0)
  have k1:=cell_regrown (hk2.cell 1)
  have cA:=fun dd os=>Calls.regrown_of (w:=w2) (d:=dd) (os:=os) (Itoa_any a HAB.out.1.1 HAB.out.1.2 _ ((HT.out.below hb2).below (below_regrown w2 dd os)))
  have cB:=fun dd os=>Calls.regrown_of (w:=w2) (d:=dd) (os:=os) (Itoa_any b HAB.out.2.1 HAB.out.2.2 _ ((HT.out.below hb2).below (below_regrown w2 dd os)))
  have sa:=dec_size a HAB.out.1.1 HAB.out.1.2
  have sb:=dec_size b HAB.out.2.1 HAB.out.2.2
  have s1:¬ 9223372036854775807 < 1+(dec a).size:=by omega
  have s2:¬ 9223372036854775807 < 1+(dec a).size+1:=by omega
  have s3:¬ 9223372036854775807 < 1+(dec a).size+1+(dec b).size:=by omega
  clear hb2 hk2 cV a0 a1
  go_upto_region 3 with fail
  refine wp_region_quiet_below (by kernel_rfl) (by kernel_rfl) ?_
  repeat (quiet_step (first | exact cA _ _ | exact cB _ _))
  refine wpQuiet_nil ?_
  intro w3 hw'
  have HB3:=lh (HB2.out.trans ((quiet_one hw').mono HB2.out.size))
  clear hw' cA cB k0 k1
  go_wp2_with fail
  go_ret
  rw[HTE.out]
  exact⟨rfl,HB3.out⟩
end
section
open Go.RowKit Go.Sort
attribute [local go_sem] Oper.semAt_some
def rfB (x:Rf):ByteArray:=if x.kind=1 then dec x.int else if x.kind=2 then ⟨#[104,111,109,101,32]⟩++dec x.number else if x.kind=3 then ⟨#[111,117,116,32]⟩++dec x.owner++⟨#[47]⟩++dec x.number++⟨#[32]⟩++idT x.idm x.ids else ⟨#[110,105,108]⟩
def rfT (x:Rf):ByteArray:=if x.weak=true then ⟨#[119,101,97,107,32]⟩++rfB x else rfB x
theorem idT_size {a b:Int} (ha:I64 a) (hb:I64 b):(idT a b).size≤44:=by
 unfold idT
 split
 ·have:=dec_size a ha.1 ha.2
  have:=dec_size b hb.1 hb.2
  simp only[ByteArray.size_append]
  show 1+(dec a).size+1+(dec b).size≤44
  omega
 ·show 0≤44;omega
theorem rfB_size {x:Rf} (h:rfP x):(rfB x).size≤92:=by
 obtain⟨h1,h2,h3,h4,h5,h6,h7⟩:=h
 unfold rfB
 split
 ·have:=dec_size x.int h4.1 h4.2;omega
 ·split
  ·have:=decU_size h5.1 h5.2
   simp only[ByteArray.size_append]
   show 5+(dec x.number).size≤92
   omega
  ·split
   ·have:=decU_size h5.1 h5.2
    have:=dec_size x.owner h2.1 h2.2
    have:=idT_size h6 h7
    simp only[ByteArray.size_append]
    show 4+(dec x.owner).size+1+(dec x.number).size+1+(idT x.idm x.ids).size≤92
    omega
   ·show 3≤92;omega
theorem rfT_size {x:Rf} (h:rfP x):(rfT x).size≤97:=by
 have:=rfB_size h
 unfold rfT
 split
 ·rw[ByteArray.size_append]
  show 5+(rfB x).size≤97
  omega
 ·omega
set_option maxHeartbeats 8000000 in
theorem RefText_any {x:Rf} (h:rfP x) (w:World) (ht:Tb w):Calls Tryz.prog 105 #[.agg #[.int .i64 x.kind,.int .i64 x.int,.int .i64 x.owner,.int .u64 x.number,.int .i64 x.idm,.int .i64 x.ids,.int .i64 x.cls,.bool x.weak]] w (TxP w (rfT x)):=by
 obtain⟨W,hW⟩:∃ W,W=w.alloc (.cells #[.int .i64 x.kind,.int .i64 x.int,.int .i64 x.owner,.int .u64 x.number,.int .i64 x.idm,.int .i64 x.ids,.int .i64 x.cls,.bool x.weak] 26):=⟨_,rfl⟩
 obtain⟨g,hg⟩:∃ g,g=w.heap.size:=⟨_,rfl⟩
 have hb0:Below w.heap.size w W:=by rw[hW];exact below_one _ _
 have hk0:Bk W g 26 #[.int .i64 x.kind,.int .i64 x.int,.int .i64 x.owner,.int .u64 x.number,.int .i64 x.idm,.int .i64 x.ids,.int .i64 x.cls,.bool x.weak]:=by rw[hW,hg];exact Bk.new _ _ _
 have a0:W.cell? ⟨g,0,none⟩=some (.int .i64 x.kind):=hk0.cell 0
 have a1:W.cell? ⟨g,1,none⟩=some (.int .i64 x.int):=hk0.cell 1
 have a2:W.cell? ⟨g,2,none⟩=some (.int .i64 x.owner):=hk0.cell 2
 have a3:W.cell? ⟨g,3,none⟩=some (.int .u64 x.number):=hk0.cell 3
 have a4:W.cell? ⟨g,4,none⟩=some (.int .i64 x.idm):=hk0.cell 4
 have a5:W.cell? ⟨g,5,none⟩=some (.int .i64 x.ids):=hk0.cell 5
 have a6:W.cell? ⟨g,6,none⟩=some (.int .i64 x.cls):=hk0.cell 6
 have a7:W.cell? ⟨g,7,none⟩=some (.bool x.weak):=hk0.cell 7
 have HT:=lh (ht.below hb0)
 have HB0:=lh hb0
 have HK0:=lh hk0
 obtain⟨T,hT⟩:∃ T,T=rfT x:=⟨_,rfl⟩
 rw[← hT]
 have HTE:=lh hT
 have HX:=lh h
 have sT:=rfB_size h
 clear hb0 hk0 ht h hT
 go_enter Tryz.func105,Tryz.ntmps105
 go_upto_region 1 with fail
 rw[← hW,← hg]
 clear hW hg
 by_cases k1:x.kind=1
 ·have hB:rfB x=dec x.int:=by unfold rfB;rw[if_pos k1]
  have HBB:=lh hB
  rw[hB] at sT
  have s1:¬ 9223372036854775807 < 5+(dec x.int).size:=by omega
  rw[k1] at a0
  have cF:=FormatInt_any x.int HX.out.2.2.2.1.1 HX.out.2.2.2.1.2 W HT.out
  clear hB k1
  go_wp2_with fail
  refine cF.mono ?_
  rintro e w2 ⟨rfl,hb2⟩
  have HB2:=lh (HB0.out.trans (hb2.mono HB0.out.size))
  have d7:w2.cell? ⟨g,7,none⟩=some (.bool x.weak):=(HK0.out.below hb2 HK0.out.lt).cell 7
  clear cF hb2 a0 a1 a2 a3 a4 a5 a6 a7
  cases hw:x.weak with
  | true =>
   rw[hw] at d7
   have HE:Hid (T=⟨#[119,101,97,107,32]⟩++dec x.int):=lh (by rw[HTE.out];unfold rfT;rw[hw,if_pos rfl,HBB.out])
   clear hw
   go_wp2_with fail
   go_ret
   rw[HE.out]
   exact⟨rfl,HB2.out⟩
  | false =>
   rw[hw] at d7
   have HE:Hid (T=dec x.int):=lh (by rw[HTE.out];unfold rfT;rw[hw,if_neg (by decide),HBB.out])
   clear hw
   go_wp2_with fail
   go_ret
   rw[HE.out]
   exact⟨rfl,HB2.out⟩
 by_cases k2:x.kind=2
 ·have hB:rfB x=⟨#[104,111,109,101,32]⟩++dec x.number:=by unfold rfB;rw[if_neg k1,if_pos k2]
  have HBB:=lh hB
  have sd:=decU_size HX.out.2.2.2.2.1.1 HX.out.2.2.2.2.1.2
  have s0:¬ 9223372036854775807 < 5+(dec x.number).size:=by omega
  have s1:¬ 9223372036854775807 < 5+(5+(dec x.number).size):=by omega
  rw[k2] at a0
  have cF:=Dec_any HX.out.2.2.2.2.1 W HT.out
  clear hB k1 k2 sT
  go_wp2_with fail
  refine cF.mono ?_
  rintro e w2 ⟨rfl,hb2⟩
  have HB2:=lh (HB0.out.trans (hb2.mono HB0.out.size))
  have d7:w2.cell? ⟨g,7,none⟩=some (.bool x.weak):=(HK0.out.below hb2 HK0.out.lt).cell 7
  clear cF hb2 a0 a1 a2 a3 a4 a5 a6 a7
  cases hw:x.weak with
  | true =>
   rw[hw] at d7
   have HE:Hid (T=⟨#[119,101,97,107,32]⟩++(⟨#[104,111,109,101,32]⟩++dec x.number)):=lh (by rw[HTE.out];unfold rfT;rw[hw,if_pos rfl,HBB.out])
   clear hw
   go_wp2_with fail
   go_ret
   rw[HE.out]
   exact⟨rfl,HB2.out⟩
  | false =>
   rw[hw] at d7
   have HE:Hid (T=(⟨#[104,111,109,101,32]⟩++dec x.number)):=lh (by rw[HTE.out];unfold rfT;rw[hw,if_neg (by decide),HBB.out])
   clear hw
   go_wp2_with fail
   go_ret
   rw[HE.out]
   exact⟨rfl,HB2.out⟩
 by_cases k3:x.kind=3
 ·have hB:rfB x=⟨#[111,117,116,32]⟩++dec x.owner++⟨#[47]⟩++dec x.number++⟨#[32]⟩++idT x.idm x.ids:=by unfold rfB;rw[if_neg k1,if_neg k2,if_pos k3]
  have HBB:=lh hB
  have sd:=decU_size HX.out.2.2.2.2.1.1 HX.out.2.2.2.2.1.2
  have so:=dec_size x.owner HX.out.2.1.1 HX.out.2.1.2
  have si:=idT_size HX.out.2.2.2.2.2.1 HX.out.2.2.2.2.2.2
  have s0:¬ 9223372036854775807 < 4+(dec x.owner).size:=by omega
  have s1:¬ 9223372036854775807 < 4+(dec x.owner).size+1:=by omega
  have s2:¬ 9223372036854775807 < 4+(dec x.owner).size+1+(dec x.number).size:=by omega
  have s3:¬ 9223372036854775807 < 4+(dec x.owner).size+1+(dec x.number).size+1:=by omega
  have s4:¬ 9223372036854775807 < 4+(dec x.owner).size+1+(dec x.number).size+1+(idT x.idm x.ids).size:=by omega
  have s5:¬ 9223372036854775807 < 5+(4+(dec x.owner).size+1+(dec x.number).size+1+(idT x.idm x.ids).size):=by omega
  rw[k3] at a0
  have cA:=fun dd os=>Calls.regrown_of (w:=W) (d:=dd) (os:=os) (Itoa_any x.owner HX.out.2.1.1 HX.out.2.1.2 _ (HT.out.below (below_regrown W dd os)))
  have cB:=fun dd os=>Calls.regrown_of (w:=W) (d:=dd) (os:=os) (Dec_any HX.out.2.2.2.2.1 _ (HT.out.below (below_regrown W dd os)))
  have cC:=fun dd os=>Calls.regrown_of (w:=W) (d:=dd) (os:=os) (IdFmt_any HX.out.2.2.2.2.2.1 HX.out.2.2.2.2.2.2 _ (HT.out.below (below_regrown W dd os)))
  have ka2:=cell_regrown a2
  have ka3:=cell_regrown a3
  have ka4:=cell_regrown a4
  have ka5:=cell_regrown a5
  clear hB k1 k2 k3 sT
  go_upto_region 8 with fail
  clear a0 a1 a2 a3 a4 a5 a6 a7
  refine wp_region_quiet_below (by kernel_rfl) (by kernel_rfl) ?_
  repeat (quiet_step (first | exact cA _ _ | exact cB _ _ | exact cC _ _))
  refine wpQuiet_nil ?_
  intro w2 hw'
  have hb2:=quiet_one hw'
  have HB2:=lh (HB0.out.trans (hb2.mono HB0.out.size))
  have d7:w2.cell? ⟨g,7,none⟩=some (.bool x.weak):=(HK0.out.below hb2 HK0.out.lt).cell 7
  clear hw' hb2 cA cB cC ka2 ka3 ka4 ka5
  cases hw:x.weak with
  | true =>
   rw[hw] at d7
   have HE:Hid (T=⟨#[119,101,97,107,32]⟩++(⟨#[111,117,116,32]⟩++dec x.owner++⟨#[47]⟩++dec x.number++⟨#[32]⟩++idT x.idm x.ids)):=lh (by rw[HTE.out];unfold rfT;rw[hw,if_pos rfl,HBB.out])
   clear hw
   go_wp2_with fail
   go_ret
   rw[HE.out]
   exact⟨rfl,HB2.out⟩
  | false =>
   rw[hw] at d7
   have HE:Hid (T=(⟨#[111,117,116,32]⟩++dec x.owner++⟨#[47]⟩++dec x.number++⟨#[32]⟩++idT x.idm x.ids)):=lh (by rw[HTE.out];unfold rfT;rw[hw,if_neg (by decide),HBB.out])
   clear hw
   go_wp2_with fail
   go_ret
   rw[HE.out]
   exact⟨rfl,HB2.out⟩
 have hB:rfB x=⟨#[110,105,108]⟩:=by unfold rfB;rw[if_neg k1,if_neg k2,if_neg k3]
 have HBB:=lh hB
 have q1:(x.kind == 1)=false:=by simpa using k1
 have q2:(x.kind == 2)=false:=by simpa using k2
 have q3:(x.kind == 3)=false:=by simpa using k3
 clear hB sT k1 k2 k3
 cases hw:x.weak with
 | true =>
  rw[hw] at a7
  have HE:Hid (T=⟨#[119,101,97,107,32]⟩++⟨#[110,105,108]⟩):=lh (by rw[HTE.out];unfold rfT;rw[hw,if_pos rfl,HBB.out])
  clear hw
  go_wp2_with fail
  go_ret
  rw[HE.out]
  exact⟨rfl,HB0.out⟩
 | false =>
  rw[hw] at a7
  have HE:Hid (T=⟨#[110,105,108]⟩):=lh (by rw[HTE.out];unfold rfT;rw[hw,if_neg (by decide),HBB.out])
  clear hw
  go_wp2_with fail
  go_ret
  rw[HE.out]
  exact⟨rfl,HB0.out⟩
end
section
open Go.RowKit Go.Sort
attribute [local go_sem] Oper.semAt_some
def strs (l:List ByteArray):List Value:=l.map Value.string
def jn (xs:List ByteArray):ByteArray:=⟨(Lib.join (xs.map (·.data.toList)) [44,32]).toArray⟩
def lsT (l:List Rf):ByteArray:=⟨#[40]⟩++jn (l.map rfT)++⟨#[41]⟩
theorem lens_le (xs:List ByteArray) (b:Nat) (h:∀ x∈xs,x.size≤b):Lib.lens (xs.map (·.data.toList))≤b*xs.length:=by
 induction xs with
 | nil=>simp[Lib.lens]
 | cons x r ih =>
  have h1:=ih fun y hy=>h y (List.mem_cons_of_mem _ hy)
  have h2:x.data.toList.length≤b:=h x (List.mem_cons_self ..)
  have h3:Lib.lens ((x::r).map (·.data.toList))=x.data.toList.length+Lib.lens (r.map (·.data.toList)):=by simp[Lib.lens]
  rw[h3,List.length_cons,Nat.mul_succ]
  omega
theorem jn_size (xs:List ByteArray) (b:Nat) (h:∀ x∈xs,x.size≤b):(jn xs).size≤(b+2)*xs.length:=by
 show(Lib.join (xs.map (·.data.toList)) [44,32]).length≤_
 have:=lens_le xs b h
 cases xs with
 | nil=>simp[Lib.join_nil]
 | cons x r =>
  rw[List.map_cons,Lib.join_length]
  rw[List.map_cons] at this
  simp only[List.length_map,List.length_cons,List.length_nil] at *
  have e:(b+2)*(r.length+1)=b*(r.length+1)+2*(r.length+1):=Nat.add_mul _ _ _
  omega
theorem lsT_size {l:List Rf} (hl:l.length≤1024) (h:∀ x∈l,rfP x):(jn (l.map rfT)).size≤101376:=by
 have:=jn_size (l.map rfT) 97 (fun x hx=>by obtain⟨y,hy,rfl⟩:=List.mem_map.1 hx;exact rfT_size (h y hy))
 rw[List.length_map] at this
 omega
theorem i_strT:(Tryz.prog.info? 9).map (fun i=>(i.zero,i.size,i.bytes))=some (some (.string ⟨#[]⟩),1,16):=by kernel_rfl
theorem cell_one (w:World) (v:Value) (t:TypeId):∀ j u,[v][j]?=some u→(w.alloc (.cells #[v] t)).cell? ((⟨w.heap.size,0,none⟩:Addr).add j)=some u:=by
 intro j u hj
 cases j with
 | zero=>cases hj;rw[Addr.add_mid];exact(Bk.new w t #[v]).cell 0
 | succ k=>cases hj
theorem strs_get {l:List ByteArray} {j:Nat} {x:ByteArray} (h:l[j]?=some x):(strs l)[j]?=some (.string x):=by unfold strs;rw[List.getElem?_map,h];rfl
theorem strs_snoc {l:List Rf} {k:Nat} {x:Rf} (h:l[k]?=some x):strs ((l.take k).map rfT)++[.string (rfT x)]=strs ((l.take (k+1)).map rfT):=by
 rw[List.take_add_one,h]
 simp[strs]
set_option maxHeartbeats 8000000 in
theorem RefsText_any {A:Option Addr} {c:Nat} {l:List Rf} {w:World} (h:LsI (flat rfC) 26 8 w A c l) (hl:l.length≤1024) (hp:∀ x∈l,rfP x) (ht:Tb w):Calls Tryz.prog 78 #[.slice A l.length c] w (TxP w (lsT l)):=by
 obtain⟨i0,hi,hz0,hz1,hz2⟩:=info_parts i_strT
 have HI:=lh (And.intro hi (And.intro hz0 (And.intro hz1 hz2)))
 have hc:=h.le.1
 have H:=lh (And.intro h hp)
 have HT:=lh ht
 have HW0:Hid (w.ownsRow w.heap.size 9 1 (.slice none 0 0) 0 (strs ((l.take 0).map rfT))):=lh (World.ownsRow_nil _ _ _ _)
 have HBE:Hid (Below w.heap.size w w):=lh (Below.refl _ _)
 obtain⟨T,hT⟩:∃ T,T=lsT l:=⟨_,rfl⟩
 rw[← hT]
 have HTE:=lh hT
 clear h hp ht hi hz0 hz1 hz2 hT
 go_enter Tryz.func78,Tryz.ntmps78
 go_wp2_with fail
 go_loopw [3,8] (fun v ix wr=>∃ k:Nat,ix=.int .i64 (k:Int)∧k≤l.length∧wr.ownsRow w.heap.size 9 1 v k (strs ((l.take k).map rfT))∧Below w.heap.size w wr) (fun _ ix _=>l.length - (intOf ix).toNat)
 case atStart=>exact⟨0,rfl,Nat.zero_le _,HW0.out,HBE.out⟩
 case round =>
  obtain⟨k,rfl,hk,hown,hB⟩:=hrel
  have HO:=lh hown
  have HB:=lh hB
  clear hown hB
  by_cases hlt:k < l.length
  ·obtain⟨x,hx⟩:∃ x,l[k]?=some x:=⟨_,List.getElem?_eq_getElem hlt⟩
   obtain⟨b,o,r,hA,_,hr,hcell⟩:=H.out.1.get hx
   subst hA
   have e0:wr.cell? ⟨b,o+k*8,none⟩=some (.int .i64 x.kind):=(bcell HB.out).1 _ _ (cell_lt (hcell 0 _ (by rw[hr];rfl))) |>.trans (hcell 0 _ (by rw[hr];rfl))
   have e1:wr.cell? ⟨b,o+k*8+1,none⟩=some (.int .i64 x.int):=(bcell HB.out).1 _ _ (cell_lt (hcell 1 _ (by rw[hr];rfl))) |>.trans (hcell 1 _ (by rw[hr];rfl))
   have e2:wr.cell? ⟨b,o+k*8+2,none⟩=some (.int .i64 x.owner):=(bcell HB.out).1 _ _ (cell_lt (hcell 2 _ (by rw[hr];rfl))) |>.trans (hcell 2 _ (by rw[hr];rfl))
   have e3:wr.cell? ⟨b,o+k*8+3,none⟩=some (.int .u64 x.number):=(bcell HB.out).1 _ _ (cell_lt (hcell 3 _ (by rw[hr];rfl))) |>.trans (hcell 3 _ (by rw[hr];rfl))
   have e4:wr.cell? ⟨b,o+k*8+4,none⟩=some (.int .i64 x.idm):=(bcell HB.out).1 _ _ (cell_lt (hcell 4 _ (by rw[hr];rfl))) |>.trans (hcell 4 _ (by rw[hr];rfl))
   have e5:wr.cell? ⟨b,o+k*8+5,none⟩=some (.int .i64 x.ids):=(bcell HB.out).1 _ _ (cell_lt (hcell 5 _ (by rw[hr];rfl))) |>.trans (hcell 5 _ (by rw[hr];rfl))
   have e6:wr.cell? ⟨b,o+k*8+6,none⟩=some (.int .i64 x.cls):=(bcell HB.out).1 _ _ (cell_lt (hcell 6 _ (by rw[hr];rfl))) |>.trans (hcell 6 _ (by rw[hr];rfl))
   have e7:wr.cell? ⟨b,o+k*8+7,none⟩=some (.bool x.weak):=(bcell HB.out).1 _ _ (cell_lt (hcell 7 _ (by rw[hr];rfl))) |>.trans (hcell 7 _ (by rw[hr];rfl))
   have hkc:k < c:=by omega
   have HX:=lh hx
   have HXP:Hid (rfP x):=lh (H.out.2 x (List.mem_of_getElem? hx))
   obtain⟨W,hW⟩:∃ W,W=wr.alloc (.cells #[.int .i64 x.kind,.int .i64 x.int,.int .i64 x.owner,.int .u64 x.number,.int .i64 x.idm,.int .i64 x.ids,.int .i64 x.cls,.bool x.weak] 26):=⟨_,rfl⟩
   obtain⟨g,hg⟩:∃ g,g=wr.heap.size:=⟨_,rfl⟩
   have hb0:Below wr.heap.size wr W:=by rw[hW];exact below_one _ _
   have hk0:Bk W g 26 #[.int .i64 x.kind,.int .i64 x.int,.int .i64 x.owner,.int .u64 x.number,.int .i64 x.idm,.int .i64 x.ids,.int .i64 x.cls,.bool x.weak]:=by rw[hW,hg];exact Bk.new _ _ _
   have a0:W.cell? ⟨g,0,none⟩=some (.int .i64 x.kind):=hk0.cell 0
   have a1:W.cell? ⟨g,1,none⟩=some (.int .i64 x.int):=hk0.cell 1
   have a2:W.cell? ⟨g,2,none⟩=some (.int .i64 x.owner):=hk0.cell 2
   have a3:W.cell? ⟨g,3,none⟩=some (.int .u64 x.number):=hk0.cell 3
   have a4:W.cell? ⟨g,4,none⟩=some (.int .i64 x.idm):=hk0.cell 4
   have a5:W.cell? ⟨g,5,none⟩=some (.int .i64 x.ids):=hk0.cell 5
   have a6:W.cell? ⟨g,6,none⟩=some (.int .i64 x.cls):=hk0.cell 6
   have a7:W.cell? ⟨g,7,none⟩=some (.bool x.weak):=hk0.cell 7
   have HBW:=lh (HB.out.trans (hb0.mono HB.out.size))
   have HOW:=lh (own_local HO.out fun q hq=>hb0.block q (HO.out.lt q hq).2)
   have cR:=RefText_any HXP.out W (HT.out.below HBW.out)
   clear hx hcell hr hb0 hk0
   go_upto_region 5 with fail
   rw[← hW,← hg]
   clear hW hg e0 e1 e2 e3 e4 e5 e6 e7
   go_wp2_with (first | (go_at_call 105;refine cR.mono ?_;rintro e w2 ⟨rfl,hb2⟩;have HB2:=lh (HBW.out.trans (hb2.mono HBW.out.size));have HO2:=lh (own_local HOW.out fun q hq=>hb2.block q (HOW.out.lt q hq).2);have hz2:=HB2.out.size;clear hb2 cR a0 a1 a2 a3 a4 a5 a6 a7) | (at_builtin;refine wpList_append_own _ rfl (.tmp 12) (.tmp 15) 85 rfl w.heap.size 9 i0 (.string ⟨#[]⟩) 1 16 Tryz.underlying85 HI.out.1 HI.out.2.1 HI.out.2.2.1 HI.out.2.2.2 rfl (by decide) _ _ _ rfl (HO2.out.alloc _) ⟨w2.heap.size,0,none⟩ 1 1 [.string (rfT x)] rfl rfl (cell_one _ _ _) (by simp[Value.oneCell']) (by unfold maxLen;omega) (by omega) (by simp;omega) ?_;intro v' w3 hown3 hg3 _;have HOWN3:=lh hown3;have HG3:=lh hg3;clear hown3 hg3))
   have HBZ:Hid (Below w.heap.size w w3):=lh ((HB2.out.alloc HB2.out.size _).grown HG3.out (by simp;omega) fun q hq=>(HO2.out.lt q hq).1)
   have HOZ:Hid (w3.ownsRow w.heap.size 9 1 v' (k+1) (strs ((l.take (k+1)).map rfT))):=lh (by rw[← strs_snoc HX.out];exact HOWN3.out)
   exact⟨⟨k+1,by go_num,hlt,HOZ.out,HBZ.out⟩,by simp[intOf];omega⟩
  ·obtain rfl:k=l.length:=by omega
   have ho:=HO.out
   rw[List.take_length] at ho
   have sT:=lsT_size hl H.out.2
   have HJ:Hid (T=⟨#[40]⟩++jn (l.map rfT)++⟨#[41]⟩):=lh HTE.out
   obtain⟨J,hJ⟩:∃ J,J=jn (l.map rfT):=⟨_,rfl⟩
   rw[← hJ] at HJ sT
   have s1:¬ 9223372036854775807 < 1+J.size:=by omega
   have s2:¬ 9223372036854775807 < 1+J.size+1:=by omega
   have h7:J.size=(Lib.join ((l.map rfT).map (·.data.toList)) [44,32]).length:=by rw[hJ];rfl
   have cJ:∃ A' c',u3=.slice A' l.length c'∧Calls Tryz.prog 132 #[.slice A' l.length c',.string ⟨#[44,32]⟩] wr (TxP wr J):=by
    obtain⟨A',c',hv,_⟩:=own_shape ho
    refine⟨A',c',hv,?_⟩
    rcases Nat.eq_zero_or_pos l.length with h0 | h0
    ·have hn:l=[]:=List.eq_nil_of_length_eq_zero h0
     rw[hn] at hJ
     rw[h0,hJ]
     exact(Tryz.strings_Join_none A' c' ⟨#[44,32]⟩ wr).mono fun e w' ⟨h1,h2⟩=>⟨h1,by rw[h2];exact Below.refl _ _⟩
    ·obtain⟨g',cap,hv2,h1,h2,h3,h4⟩:=ownSls ho h0
     rw[hv] at hv2
     injection hv2 with e1 e2 e3
     subst e1 e3
     obtain⟨b',o',e4,h5,h6⟩:=h4.get h0
     injection e4 with e4
     injection e4 with e5 e6
     subst e5 e6
     have:=Tryz.strings_Join g' 0 c' (l.map rfT) ⟨#[44,32]⟩ wr (fun j x hx=>h6 j _ (strs_get hx)) h5 (by rw[List.length_map];omega) (by rw[List.length_map];exact h1) (show(Lib.join ((l.map rfT).map (·.data.toList)) [44,32]).length≤140737488355328 from by rw[← h7];omega)
     rw[List.length_map] at this
     rw[hJ]
     exact this
   obtain⟨A',c',rfl,cJ⟩:=cJ
   clear ho hJ h7
   go_wp2_with (go_at_call 132;refine cJ.mono ?_;rintro e w5 ⟨rfl,hb5⟩;have HB5:=lh (HB.out.trans (hb5.mono HB.out.size));clear hb5 cJ)
   go_ret
   rw[HJ.out]
   exact⟨rfl,HB5.out⟩
end
end Go.Proofs.YtmbnlccafcfbeaaGreatDoor
