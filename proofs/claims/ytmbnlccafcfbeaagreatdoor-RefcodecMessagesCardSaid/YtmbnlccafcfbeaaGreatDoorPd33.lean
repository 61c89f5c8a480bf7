/- Parts of the proof: RcO3, RcAw, LwA, LwB, LwC, LwD, LwE. -/
import Derived.Test.YtmbnlccafcfbeaaGreatDoorPdA
import Derived.Test.YtmbnlccafcfbeaaGreatDoorPd26
import Derived.Test.YtmbnlccafcfbeaaGreatDoorPd30
import Derived.Test.YtmbnlccafcfbeaaGreatDoorPd32
set_option linter.unusedVariables false
set_option linter.unusedSimpArgs false
set_option linter.unusedSectionVars false
set_option maxRecDepth 100000
namespace Go.Proofs.YtmbnlccafcfbeaaGreatDoor
section
open Go.RowKit
theorem encS_lenR {s:ByteArray} (h:sP s):(encS s).length≤4105:=by
 have h1:(s.size:Int)≤4096:=h
 have h2:=encU_len (n:=(s.size:Int)) (by omega)
 unfold encS
 rw[List.length_append]
 have h3:(bts s).length=s.size:=by simp[bts]
 omega
theorem encL_lenR {α:Type} {f:α→List Int} {l:List α} {P:α→Prop} (h:lP P l) (b:Nat) (hb:∀ x,P x→(f x).length≤b):(encL f l).length≤9+b*1024:=by
 have h1:=encU_len (n:=(l.length:Int)) (by have:=h.1;omega)
 have h2:∀ k:List α,(∀ x∈k,P x)→(k.flatMap f).length≤b*k.length:=fun k=>by
  induction k with
  | nil=>intro _;simp
  | cons x r ih =>
   intro hk
   have:=ih fun y hy=>hk y (List.mem_cons_of_mem _ hy)
   have:=hb x (hk x (List.mem_cons_self ..))
   rw[List.flatMap_cons,List.length_append,List.length_cons,Nat.mul_succ]
   omega
 have h3:=h2 l h.2
 have h4:b*l.length≤b*1024:=Nat.mul_le_mul_left b (by have:=h.1;omega)
 unfold encL
 rw[List.length_append]
 omega
theorem encLt_len {x:Lt} (h:ltP x):(encLt x).length≤69668:=by
 have h1:=encI_lenR h.1
 have h2:=encI_lenR h.2.1
 have h3:=encS_lenR h.2.2.1
 have h4:=encL_lenR (f:=encRf) h.2.2.2 64 fun x hx=>encRf_len hx
 unfold encLt
 simp only[List.length_append]
 omega
theorem encWa_len {x:Wa} (h:waP x):(encWa x).length≤4196:=by
 have h1:=encI_lenR h.1
 have h2:=encI_lenR h.2.1
 have h3:=encS_lenR h.2.2.1
 have h4:=encI_lenR h.2.2.2.1
 have h5:=encRf_len h.2.2.2.2
 unfold encWa
 simp only[List.length_append]
 omega
theorem encPc_len {x:Pc} (h:pcP x):(encPc x).length≤75702344:=by
 have h1:=encU_len h.1.2
 have h2:=encI_lenR h.2.1
 have h3:=encI_lenR h.2.2.1
 have h4:=encI_lenR h.2.2.2.1
 have h5:=encI_lenR h.2.2.2.2.1
 have h6:=encL_lenR (f:=encRf) h.2.2.2.2.2.1 64 fun x hx=>encRf_len hx
 have h7:=encL_lenR (f:=encLt) h.2.2.2.2.2.2.1 69668 fun x hx=>encLt_len hx
 have h8:=encL_lenR (f:=encWa) h.2.2.2.2.2.2.2 4196 fun x hx=>encWa_len hx
 unfold encPc
 simp only[List.length_append]
 omega
theorem encAn_len {x:An} (h:anP x):(encAn x).length≤27704:=by
 have h1:=encI_lenR h.1
 have h2:=encI_lenR h.2.1
 have h3:=encI_lenR h.2.2.1
 have h4:=encI_lenR h.2.2.2.1
 have h5:=encU_len h.2.2.2.2.1.2
 have h6:=encB_one x.known
 have h7:=encB_one x.rooted
 have h8:=encL_lenR (f:=encIn) h.2.2.2.2.2 27 fun(y:In) (hy:inP y)=>by
  have a:=encI_lenR hy.1
  have b:=encI_lenR hy.2.1
  have c:=encU_len hy.2.2.2
  show(encIn y).length≤27
  unfold encIn
  simp only[List.length_append]
  omega
 unfold encAn
 simp only[List.length_append]
 omega
theorem encNd_len {y:Nd} (hy:ndP y):(encNd y).length≤27:=by
 have a:=encI_lenR hy.1
 have b:=encI_lenR hy.2.1
 have c:=encU_len hy.2.2.2
 unfold encNd
 simp only[List.length_append]
 omega
theorem encCl_len {x:Cl} (h:clP x):(encCl x).length≤82989:=by
 have h1:=encI_lenR h.1
 have h2:=encI_lenR h.2.1
 have h3:=encL_lenR (f:=encNd) h.2.2.1 27 fun x hx=>encNd_len hx
 have h4:=encL_lenR (f:=encNd) h.2.2.2.1 27 fun x hx=>encNd_len hx
 have h5:=encL_lenR (f:=encNd) h.2.2.2.2 27 fun x hx=>encNd_len hx
 unfold encCl
 simp only[List.length_append]
 omega
theorem encMs_len {x:Ms} (h:msP x):(encMs x).length≤80000000:=by
 obtain⟨h1,h2,h3,h4,h5,h6,h7,h8,h9,h10,h11⟩:=h
 have a1:=encI_lenR h1
 have a2:=encI_lenR h2
 have a3:=encI_lenR h3
 have a4:=encI_lenR h4
 have a5:=encU_len h5.2
 have a6:=encS_lenR h6
 have a7:=encRf_len h7
 have a8:=encLt_len h8
 have a9:=encPc_len h9
 have b1:=encAn_len h10
 have b2:=encCl_len h11
 unfold encMs
 simp only[List.length_append]
 omega
theorem encL_b8R {α:Type} {f:α→List Int} {l:List α} {P:α→Prop} (h:lP P l) (hb:∀ x,P x→B8 (f x)):B8 (encL f l):=by
 refine(encU_b8 (by have:=h.1;omega)).app ?_
 intro y hy
 obtain⟨x,hx,hy⟩:=List.mem_flatMap.1 hy
 exact hb x (h.2 x hx) y hy
theorem encI_b8R {n:Int} (h:I64 n):B8 (encI n):=encU_b8 (zz_rg h).2
theorem encS_b8R {s:ByteArray} (h:sP s):B8 (encS s):=(encU_b8 (by have:(s.size:Int)≤4096:=h;omega)).app (bts_b8 s)
theorem encB_b8R (x:Bool):B8 (encB x):=by cases x <;> exact B8.one (by decide) (by decide)
theorem encRf_b8 {x:Rf} (h:rfP x):B8 (encRf x) :=
 ((((((encI_b8R h.1).app (encI_b8R h.2.1)).app (encI_b8R h.2.2.1)).app (encI_b8R h.2.2.2.1)).app (encU_b8 h.2.2.2.2.1.2)).app ((encI_b8R h.2.2.2.2.2.1).app (encI_b8R h.2.2.2.2.2.2))).app (encB_b8R _)
theorem encLt_b8 {x:Lt} (h:ltP x):B8 (encLt x):=(((encI_b8R h.1).app (encI_b8R h.2.1)).app (encS_b8R h.2.2.1)).app (encL_b8R h.2.2.2 fun x hx=>encRf_b8 hx)
theorem encWa_b8 {x:Wa} (h:waP x):B8 (encWa x):=((((encI_b8R h.1).app (encI_b8R h.2.1)).app (encS_b8R h.2.2.1)).app (encI_b8R h.2.2.2.1)).app (encRf_b8 h.2.2.2.2)
theorem encPc_b8 {x:Pc} (h:pcP x):B8 (encPc x) :=
 (((((encU_b8 h.1.2).app ((encI_b8R h.2.1).app (encI_b8R h.2.2.1))).app ((encI_b8R h.2.2.2.1).app (encI_b8R h.2.2.2.2.1))).app (encL_b8R h.2.2.2.2.2.1 fun x hx=>encRf_b8 hx)).app (encL_b8R h.2.2.2.2.2.2.1 fun x hx=>encLt_b8 hx)).app (encL_b8R h.2.2.2.2.2.2.2 fun x hx=>encWa_b8 hx)
theorem encIn_b8 {x:In} (h:inP x):B8 (encIn x):=((encI_b8R h.1).app (encI_b8R h.2.1)).app (encU_b8 h.2.2.2)
theorem encNd_b8 {x:Nd} (h:ndP x):B8 (encNd x):=((encI_b8R h.1).app (encI_b8R h.2.1)).app (encU_b8 h.2.2.2)
theorem encAn_b8 {x:An} (h:anP x):B8 (encAn x) :=
 ((((((encI_b8R h.1).app (encI_b8R h.2.1)).app (encI_b8R h.2.2.1)).app (encI_b8R h.2.2.2.1)).app (encU_b8 h.2.2.2.2.1.2)).app (encB_b8R _)).app (encB_b8R _) |>.app (encL_b8R h.2.2.2.2.2 fun x hx=>encIn_b8 hx)
theorem encCl_b8 {x:Cl} (h:clP x):B8 (encCl x) :=
 ((((encI_b8R h.1).app (encI_b8R h.2.1)).app (encL_b8R h.2.2.1 fun x hx=>encNd_b8 hx)).app (encL_b8R h.2.2.2.1 fun x hx=>encNd_b8 hx)).app (encL_b8R h.2.2.2.2 fun x hx=>encNd_b8 hx)
theorem encMs_b8 {x:Ms} (h:msP x):B8 (encMs x):=by
 obtain⟨h1,h2,h3,h4,h5,h6,h7,h8,h9,h10,h11⟩:=h
 exact((((((((((encI_b8R h1).app (encI_b8R h2)).app (encI_b8R h3)).app (encI_b8R h4)).app (encU_b8 h5.2)).app (encS_b8R h6)).app (encRf_b8 h7)).app (encLt_b8 h8)).app (encPc_b8 h9)).app (encAn_b8 h10)).app (encCl_b8 h11)
end
section
open Go.RowKit Go.Sort
attribute [local go_sem] Oper.semAt_some
def args0:List Rf:=[⟨0,0,0,0,0,0,0,false⟩,⟨1,5,0,0,0,0,0,false⟩,⟨3,0,2,9,1,4,0,false⟩]
def x0:Ms:={ Ms.zero with number:=7,letter:=⟨1,3,⟨#[104,105,116]⟩,args0⟩ }
def row0M (b1:Nat):Array Value:=#[.int .i64 0,.int .u64 7,.int .i64 0,.string ⟨#[]⟩,.int .i64 0,.int .i64 0,.int .i64 0,.int .u64 0,.int .i64 0,.int .i64 0,.int .i64 0,.bool false,.int .i64 1,.int .i64 3,.string ⟨#[104,105,116]⟩,.slice (some ⟨b1,0,none⟩) 3 3,.int .u64 0,.int .i64 0,.int .i64 0,.int .i64 0,.int .i64 0,.slice none 0 0,.slice none 0 0,.slice none 0 0,.int .i64 0,.int .i64 0,.int .i64 0,.int .i64 0,.int .u64 0,.int .i64 0,.bool false,.bool false,.int .i64 0,.slice none 0 0,.int .i64 0,.int .i64 0,.slice none 0 0,.slice none 0 0,.slice none 0 0]
theorem x0_p:msP x0:=by
 obtain⟨zp,zi,zs,zr,zl,zc,za,zq⟩:=zero_p
 have i:∀ n:Int,0≤n→n≤100→I64 n:=fun n h1 h2=>by unfold I64;omega
 refine⟨zi,zi,zi,zi,by show P64 7;unfold P64;omega,zs,zr,⟨i 1 (by omega) (by omega),i 3 (by omega) (by omega),by show sP ⟨#[104,105,116]⟩;unfold sP;decide,?_⟩,zc,za,zq⟩
 show lP rfP args0
 refine⟨by decide,fun x hx=>?_⟩
 have:x=⟨0,0,0,0,0,0,0,false⟩ ∨ x=⟨1,5,0,0,0,0,0,false⟩ ∨ x=⟨3,0,2,9,1,4,0,false⟩:=by simpa [args0] using hx
 rcases this with rfl | rfl | rfl <;> refine⟨i _ ?_ ?_,i _ ?_ ?_,i _ ?_ ?_,i _ ?_ ?_,?_,i _ ?_ ?_,i _ ?_ ?_⟩ <;> first | decide | (show P64 _;unfold P64;decide)
theorem x0_v:msV x0=true:=by decide
theorem dms_enc {x:Ms} (h:msP x) (hv:msV x=true):dms (encMs x)=(x,0):=by
 have:=codMs.fw x [] h
 rw[List.append_nil] at this
 unfold dms
 rw[this]
 simp[hv]
theorem dec_one {n:Nat} (h:n < 10):dec (n:Int)=⟨#[UInt8.ofNat (48+n)]⟩:=by rw[← dec_nat,Lib.decDigits_one h]
theorem x0_t:fmtV x0=⟨#[100,101,108,105,118,101,114,32,55,32,109,49,58,51,32,104,105,116,40,110,105,108,44,32,53,44,32,111,117,116,32,50,47,57,32,109,49,58,52,41]⟩:=by
 unfold fmtV
 rw[x0_v,if_pos rfl]
 have e1:dec 1=⟨#[49]⟩:=dec_one (n:=1) (by omega)
 have e2:dec 2=⟨#[50]⟩:=dec_one (n:=2) (by omega)
 have e3:dec 3=⟨#[51]⟩:=dec_one (n:=3) (by omega)
 have e4:dec 4=⟨#[52]⟩:=dec_one (n:=4) (by omega)
 have e5:dec 5=⟨#[53]⟩:=dec_one (n:=5) (by omega)
 have e7:dec 7=⟨#[55]⟩:=dec_one (n:=7) (by omega)
 have e9:dec 9=⟨#[57]⟩:=dec_one (n:=9) (by omega)
 have i1:idT 1 3=⟨#[109,49,58,51]⟩:=by unfold idT;rw[if_pos (by decide),e1,e3];rfl
 have i2:idT 1 4=⟨#[109,49,58,52]⟩:=by unfold idT;rw[if_pos (by decide),e1,e4];rfl
 have r0:rfT ⟨0,0,0,0,0,0,0,false⟩=⟨#[110,105,108]⟩:=rfl
 have r1:rfT ⟨1,5,0,0,0,0,0,false⟩=⟨#[53]⟩:=by show dec 5=_;exact e5
 have r2:rfT ⟨3,0,2,9,1,4,0,false⟩=⟨#[111,117,116,32,50,47,57,32,109,49,58,52]⟩:=by
  show⟨#[111,117,116,32]⟩++dec 2++⟨#[47]⟩++dec 9++⟨#[32]⟩++idT 1 4=_
  rw[e2,e9,i2];rfl
 show kS 0++(⟨#[32]⟩++dec 7++⟨#[32]⟩++idT 1 3++⟨#[32]⟩++⟨#[104,105,116]⟩++lsT args0)=_
 have l0:lsT args0=⟨#[40,110,105,108,44,32,53,44,32,111,117,116,32,50,47,57,32,109,49,58,52,41]⟩:=by
  unfold lsT args0
  rw[List.map_cons,List.map_cons,List.map_cons,List.map_nil,r0,r1,r2]
  rfl
 rw[e7,i1,l0]
 rfl
theorem x0_len:(encMs x0).length≤2147483648∧0 < (encMs x0).length:=by
 have h1:=encMs_len x0_p
 have h2:=encI_one x0.kind
 refine⟨by omega,?_⟩
 unfold encMs
 simp only[List.length_append]
 omega
set_option maxHeartbeats 4000000 in
theorem row0_in {w:World} {b1:Nat} (h:Bk w b1 26 #[.int .i64 0,.int .i64 0,.int .i64 0,.int .u64 0,.int .i64 0,.int .i64 0,.int .i64 0,.bool false,.int .i64 1,.int .i64 5,.int .i64 0,.int .u64 0,.int .i64 0,.int .i64 0,.int .i64 0,.bool false,.int .i64 3,.int .i64 0,.int .i64 2,.int .u64 9,.int .i64 1,.int .i64 4,.int .i64 0,.bool false]):MsI w x0 (row0M b1).toList:=by
 refine⟨some ⟨b1,0,none⟩,3,none,0,none,0,none,0,none,0,none,0,none,0,none,0,rfl,?_,LsR.tnil,LsR.tnil,LsR.tnil,LsR.tnil,LsR.tnil,LsR.tnil,LsR.tnil⟩
 unfold LsR
 rw[if_pos rfl]
 refine⟨by decide,by decide,.inr ⟨b1,0,rfl,h.lt,fun i x hx=>?_⟩⟩
 have hi:i < 3:=(List.getElem?_eq_some_iff.1 hx).1
 rcases (show i=0 ∨ i=1 ∨ i=2 by omega) with rfl | rfl | rfl <;> cases hx <;> refine⟨_,rfl,rfl,fun j v hv=>⟨?_,h.free _⟩⟩ <;> (have hj:j < 8:=(List.getElem?_eq_some_iff.1 hv).1) <;> rw[h.cell] <;> rcases (show j=0 ∨ j=1 ∨ j=2 ∨ j=3 ∨ j=4 ∨ j=5 ∨ j=6 ∨ j=7 by omega) with rfl | rfl | rfl | rfl | rfl | rfl | rfl | rfl <;> exact hv
set_option maxHeartbeats 8000000 in
theorem awake27 (w:World) (ht:Tb w):Calls Tryz.prog 10 #[] w (YesP w true):=by
 obtain⟨w1,hw1⟩:∃ w1,w1=w.alloc (.cells #[.int .i64 0,.int .i64 0,.int .i64 0,.int .u64 0,.int .i64 0,.int .i64 0,.int .i64 0,.bool false,.int .i64 1,.int .i64 5,.int .i64 0,.int .u64 0,.int .i64 0,.int .i64 0,.int .i64 0,.bool false,.int .i64 3,.int .i64 0,.int .i64 2,.int .u64 9,.int .i64 1,.int .i64 4,.int .i64 0,.bool false] 26):=⟨_,rfl⟩
 obtain⟨b1,hb1⟩:∃ b1,b1=w.heap.size:=⟨_,rfl⟩
 have hB1:Below w.heap.size w w1:=by rw[hw1];exact below_one _ _
 have hq1:Bk w1 b1 26 #[.int .i64 0,.int .i64 0,.int .i64 0,.int .u64 0,.int .i64 0,.int .i64 0,.int .i64 0,.bool false,.int .i64 1,.int .i64 5,.int .i64 0,.int .u64 0,.int .i64 0,.int .i64 0,.int .i64 0,.bool false,.int .i64 3,.int .i64 0,.int .i64 2,.int .u64 9,.int .i64 1,.int .i64 4,.int .i64 0,.bool false]:=by rw[hw1,hb1];exact Bk.new _ _ _
 have HB1:=lh hB1
 have HQ1:=lh hq1
 have HT:=lh ht
 clear hB1 hq1 ht
 go_enter Tryz.func10,Tryz.ntmps10
 go_upto_region 2 with fail
 rw[← hw1,← hb1]
 clear hw1 hb1
 refine wp_region_list ?_
 go_upto_region 3 with (first | (refine wpList_build rfl _ _ rfl (by kernel_rfl) ?_) | (refine wpList_store_rowK rfl _ _ _ rfl w1.heap.size (row0M b1) (by kernel_rfl) (by kernel_rfl) _ _ (heap_alloc_new w1 _) (by kernel_rfl) (by kernel_rfl) (by kernel_rfl) ?_;intro w2 hk2 hp2) | fail)
 have hmi:=row0_in (HQ1.out.below (show Below w1.heap.size w1 w2 from hp2.toBelow (below_one _ _) (by simp) fun j e=>by omega) HQ1.out.lt)
 have hb2:Below w1.heap.size w1 w2:=hp2.toBelow (below_one _ _) (by simp) fun j e=>by omega
 obtain⟨g2,hg2⟩:∃ g2,g2=w1.heap.size:=⟨_,rfl⟩
 rw[← hg2] at hk2 ⊢
 obtain⟨M,hM⟩:∃ M,M=row0M b1:=⟨_,rfl⟩
 obtain⟨r,hr⟩:∃ r,r=(row0M b1).toList:=⟨_,rfl⟩
 rw[← hM] at hk2
 rw[← hr] at hmi
 have hMr:M=r.toArray:=by rw[hM,hr]
 have HSZ:Hid (M.toList.length=39):=lh (by rw[hM];rfl)
 have HM:=lh hMr
 have HI2:=lh hmi
 have HK2:=lh hk2
 have HB2:=lh (HB1.out.trans (hb2.mono HB1.out.size))
 have HT2:=lh (HT.out.below HB2.out)
 obtain⟨l,hl⟩:∃ l,l=encMs x0:=⟨_,rfl⟩
 have HL:Hid (l.length≤2147483648∧B8 l∧dms l=(x0,0)):=lh (by rw[hl];exact⟨x0_len.1,encMs_b8 x0_p,dms_enc x0_p x0_v⟩)
 have hll:0 < l.length:=by rw[hl];exact x0_len.2
 have cE:Calls Tryz.prog 13 #[.agg M] w2 fun e w'=>∃ v,e=.returned (.tuple #[v,.int .i64 0])∧w'.ownsRow w2.heap.size 5 1 v l.length (byts l)∧Below w2.heap.size w2 w':=by
  have:=Encode_any HI2.out x0_p x0_len.1
  rw[x0_v,if_pos rfl,if_pos rfl,← hl,← HM.out] at this
  exact this
 clear hmi hk2 hp2 hb2 hg2 hM hr hMr hl
 refine wp_region_list ?_
 refine wpList_load_mid rfl _ _ rfl g2 0 rfl M.toList _ HK2.out.rng rfl rfl (by rw[HSZ.out];rfl) ?_
 simp only[Array.toArray_toList]
 go_upto_region 4 with (go_at_call 13;refine cE.mono ?_;rintro e w3 ⟨v3,rfl,ho3,hb3⟩)
 obtain⟨A3,c3,rfl,_⟩:=own_shape ho3
 have HB3:=lh (HB2.out.trans (hb3.mono HB2.out.size))
 have HK3:=lh (HK2.out.below hb3 HK2.out.lt)
 have HI3:=lh (HI2.out.below hb3)
 have HT3:=lh (HT2.out.below hb3)
 have cD:=Decode_any (c:=c3) (own_sl ho3) (own_le ho3) HL.out.2.1 HL.out.1
 rw[HL.out.2.2] at cD
 clear cE ho3 hb3
 refine wp_region_list ?_
 go_wp2_with fail
 refine cD.mono ?_
 rintro e w4 ⟨r4,rfl,hi4,hb4⟩
 have hq4:r4.toArray.toList.length=39:=hi4.len
 obtain⟨N4,hN⟩:∃ N4,N4=r4.toArray:=⟨_,rfl⟩
 rw[← hN] at hq4 ⊢
 have hq5:N4.size=39:=by rw[Array.length_toList] at hq4;exact hq4
 have h1c:N4.all (·.oneCell')=true:=by rw[hN];exact msOne hi4
 have HN:=lh hN
 have HN4:=lh hq4
 have HS4:=lh hq5
 have HC4:=lh h1c
 have HI4:=lh hi4
 have HB34:=lh hb4
 have HB4:=lh (HB3.out.trans (hb4.mono HB3.out.size))
 clear hi4 hq4 hq5 h1c hN hb4 cD
 go_upto_region 5 with (first | (refine wpList_store_rowK (P:=Tryz.prog) rfl 42 _ _ rfl w4.heap.size N4 rfl rfl _ _ (heap_alloc_new w4 _) (by rw[HS4.out];rfl) (by rw[HS4.out];rfl) HC4.out ?_;intro w5 hk5 hp5) | fail)
 have hb5:Below w4.heap.size w4 w5:=hp5.toBelow (below_one _ _) (by simp) fun j e=>by omega
 have HB5:=lh (HB4.out.trans (hb5.mono HB4.out.size))
 have HK5:=lh hk5
 have HKM5:=lh ((HK3.out.below HB34.out HK3.out.lt).below hb5 (Nat.lt_of_lt_of_le HK3.out.lt HB34.out.size))
 have HI5:=lh ((HI3.out.below HB34.out).below hb5)
 have HX5:=lh (HI4.out.below hb5)
 have HT5:=lh ((HT3.out.below HB34.out).below hb5)
 obtain⟨g5,hg5⟩:∃ g5,g5=w4.heap.size:=⟨_,rfl⟩
 rw[← hg5] at HK5 ⊢
 have cS:Calls Tryz.prog 14 #[.agg N4,.agg M] w5 (YesP w5 true):=by
  have:=Same_any HX5.out HI5.out
  rw[decide_eq_true rfl,← HN.out,← HM.out] at this
  exact this
 have h0l:(0:Int) < (l.length:Int):=by omega
 clear hk5 hp5 hb5 hg5
 go_wp2_with (first | (refine wpList_load_g rfl _ _ rfl g5 0 rfl N4.toList _ HK5.out.rng rfl rfl (by rw[HN4.out];rfl) ?_;simp only[Array.toArray_toList]) | (refine wpList_load_g rfl _ _ rfl g2 0 rfl M.toList _ HKM5.out.rng rfl rfl (by rw[HSZ.out];rfl) ?_;simp only[Array.toArray_toList]) | fail)
 refine cS.mono ?_
 rintro e w6 ⟨rfl,hb6⟩
 have HB6:=lh (HB5.out.trans (hb6.mono HB5.out.size))
 have HKM6:=lh (HKM5.out.below hb6 HKM5.out.lt)
 have cF:Calls Tryz.prog 18 #[.agg M] w6 (TxP w6 ⟨#[100,101,108,105,118,101,114,32,55,32,109,49,58,51,32,104,105,116,40,110,105,108,44,32,53,44,32,111,117,116,32,50,47,57,32,109,49,58,52,41]⟩):=by
  have:=Format_any (HI5.out.below hb6) x0_p x0_len.1 (HT5.out.below hb6)
  rw[x0_t,← HM.out] at this
  exact this
 clear cS hb6
 go_wp2_with (first | (refine wpList_load_g rfl _ _ rfl g2 0 rfl M.toList _ HKM6.out.rng rfl rfl (by rw[HSZ.out];rfl) ?_;simp only[Array.toArray_toList]) | fail)
 refine cF.mono ?_
 rintro e w7 ⟨rfl,hb7⟩
 have HB7:=lh (HB6.out.trans (hb7.mono HB6.out.size))
 clear cF hb7
 go_wp2_with fail
 go_ret
 exact⟨rfl,HB7.out⟩
end
section
open Go.RowKit Go.Sort
attribute [local go_sem] Oper.semAt_some
/-- a value that reads as a row of bytes, old or new -/
def RowC (l:List Int) (v:Value) (w:World):Prop:=∃ A c,v=.slice A l.length c∧Sl w 1 A l.length (byts l)∧l.length≤c∧∀ x,A=some x→x.spot=none
theorem own_rowC {w:World} {base:Nat} {l:List Int} {v:Value} (h:w.ownsRow base 5 1 v l.length (byts l)):RowC l v w:=by
 obtain⟨A,c,rfl,_⟩:=own_shape h
 exact⟨A,c,rfl,own_sl h,own_le h,own_spot h⟩
theorem conv_all {w:World} {A:Option Addr} {c:Nat} {l:List Int} (hs:Sl w 1 A l.length (byts l)) (hA:∀ x,A=some x→x.spot=none):(convert 45 9 (.slice A l.length c)).run Tryz.prog w=.ok (.string (txt l)) w:=by
 have:=conv_txt (c:=c) hs hA (Nat.le_refl _)
 rw[List.take_length] at this
 exact this
section
variable {w:World} {l:List Int} {A:Option Addr} {c:Nat}
end
end
section
open Go.RowKit Go.Sort
attribute [local go_sem] Oper.semAt_some
theorem encMs_le {x:Ms} (h:msP x):(encMs x).length≤2147483648:=Nat.le_trans (encMs_len h) (by decide)
section
variable {w:World} {l:List Int} {A:Option Addr} {c:Nat}
end
end
section
open Go.RowKit Go.Sort
attribute [local go_sem] Oper.semAt_some
theorem txt_dec {a b:List Int} (ha:B8 a) (hb:B8 b):((txt a).toList == (txt b).toList)=decide (a=b):=by
 rw[bytes_eq]
 exact decide_eq_decide.2 ⟨txt_inj ha hb,fun h=>by rw[h]⟩
section
variable {w:World} {a b:Rf}
end
end
section
open Go.RowKit Go.Sort
attribute [local go_sem] Oper.semAt_some
def ltT (x:Lt):Prop:=I64 x.idm∧I64 x.ids∧∀ y∈x.args,rfP y
def waT (x:Wa):Prop:=I64 x.idm∧I64 x.ids∧I64 x.key∧rfP x.tgt
def pcT (x:Pc):Prop:=P64 x.number∧I64 x.idm∧I64 x.ids∧I64 x.kind∧I64 x.cls∧(∀ y∈x.fields,rfP y)∧(∀ y∈x.mail,ltT y)∧∀ y∈x.watches,waT y
def anT (x:An):Prop:=I64 x.machine∧I64 x.owner∧I64 x.epoch∧I64 x.last∧P64 x.number∧∀ y∈x.inset,inP y
def clT (x:Cl):Prop:=I64 x.machine∧I64 x.epoch∧(∀ y∈x.stubs,ndP y)∧(∀ y∈x.scions,ndP y)∧∀ y∈x.checks,ndP y
def msT (x:Ms):Prop:=I64 x.kind∧I64 x.asker∧I64 x.tm∧I64 x.ts∧P64 x.number∧rfP x.ref∧ltT x.letter∧pcT x.parcel∧anT x.answer∧clT x.claim
theorem few_p {x:Ms} (h:msT x) (hf:fewV x=true):msP x:=by
 unfold fewV at hf
 simp only[Bool.and_eq_true,decide_eq_true_eq,List.all_eq_true] at hf
 obtain⟨⟨⟨⟨⟨⟨⟨⟨⟨f1,f2⟩,f3⟩,f4⟩,f5⟩,f6⟩,f7⟩,f8⟩,f9⟩,fa⟩:=hf
 obtain⟨h1,h2,h3,h4,h5,h6,h7,h8,h9,h10⟩:=h
 have s:∀ {b:ByteArray},b.size≤100→sP b:=fun h=>by unfold sP;omega
 have l:∀ {α:Type} {P:α→Prop} {k:List α},k.length≤1024→(∀ y∈k,P y)→lP P k:=fun h1 h2=>⟨by omega,h2⟩
 have hl:∀ y:Lt,ltT y→fewLt y=true→ltP y:=fun y hy hf=>by
  unfold fewLt at hf
  simp only[Bool.and_eq_true,decide_eq_true_eq] at hf
  exact⟨hy.1,hy.2.1,s hf.2,l (by omega) hy.2.2⟩
 have hw:∀ y:Wa,waT y→fewWa y=true→waP y:=fun y hy hf=>by
  unfold fewWa at hf
  simp only[decide_eq_true_eq] at hf
  exact⟨hy.1,hy.2.1,s hf,hy.2.2.1,hy.2.2.2⟩
 exact⟨h1,h2,h3,h4,h5,s f1,h6,⟨h7.1,h7.2.1,s f2,l (by omega) h7.2.2⟩,
  ⟨h8.1,h8.2.1,h8.2.2.1,h8.2.2.2.1,h8.2.2.2.2.1,l (by omega) h8.2.2.2.2.2.1,l (by omega) fun y hy=>hl y (h8.2.2.2.2.2.2.1 y hy) (f9 y hy),l (by omega) fun y hy=>hw y (h8.2.2.2.2.2.2.2 y hy) (fa y hy)⟩,
  ⟨h9.1,h9.2.1,h9.2.2.1,h9.2.2.2.1,h9.2.2.2.2.1,l (by omega) h9.2.2.2.2.2⟩,⟨h10.1,h10.2.1,l (by omega) h10.2.2.1,l (by omega) h10.2.2.2.1,l (by omega) h10.2.2.2.2⟩⟩
end
section
open Go.RowKit Go.Sort
attribute [local go_sem] Oper.semAt_some
section
variable {w:World} {x y:Ms} {r1 r2:List Value}
set_option maxHeartbeats 16000000 in
theorem LMsg_any (h1:MsI w x r1) (h2:MsI w y r2) (t1:msT x) (t2:msT y) (ht:Tb w):Calls Tryz.prog 3 #[.agg r1.toArray,.agg r2.toArray] w (YesP w true):=by
 have hs1:r1.toArray.toList.length=39:=h1.len
 have hs2:r2.toArray.toList.length=39:=h2.len
 obtain⟨M,hM⟩:∃ M,M=r1.toArray:=⟨_,rfl⟩
 obtain⟨L,hL⟩:∃ L,L=r2.toArray:=⟨_,rfl⟩
 rw[← hM] at hs1
 rw[← hL] at hs2
 rw[← hM,← hL]
 have HM:=lh hM
 have HL:=lh hL
 have HS1:=lh hs1
 have HS2:=lh hs2
 obtain⟨W,hW⟩:∃ W,W=(w.alloc (.cells M 42)).alloc (.cells L 42):=⟨_,rfl⟩
 obtain⟨g,hg⟩:∃ g,g=w.heap.size:=⟨_,rfl⟩
 have hb0:Below w.heap.size w W:=by rw[hW];exact((Below.refl _ _).alloc (Nat.le_refl _) _).alloc (by simp) _
 have HK0:Hid (Bk W g 42 M):=lh (by rw[hW,hg];exact(Bk.new _ _ _).alloc _)
 have HJ0:Hid (Bk W (g+1) 42 L):=lh (by rw[hW,hg];have:=Bk.new (w.alloc (.cells M 42)) 42 L;simpa using this)
 have HB0:=lh hb0
 have HI0:=lh (h1.below hb0)
 have HY0:=lh (h2.below hb0)
 have HT:=lh (ht.below hb0)
 have HTT:=lh (And.intro t1 t2)
 clear hb0 h1 h2 t1 t2 ht hM hL hs1 hs2
 go_enter Tryz.func3,Tryz.ntmps3
 go_upto_region 1 with fail
 rw[← hW,← hg]
 clear hW hg
 go_wp2_with fail
 refine(awake27 _ HT.out).mono ?_
 rintro e w1 ⟨rfl,hb1⟩
 have HB1:=lh (HB0.out.trans (hb1.mono HB0.out.size))
 have HK1:=lh (HK0.out.below hb1 HK0.out.lt)
 have HJ1:=lh (HJ0.out.below hb1 HJ0.out.lt)
 have HI1:=lh (HI0.out.below hb1)
 have HY1:=lh (HY0.out.below hb1)
 clear hb1
 have cF:Calls Tryz.prog 11 #[.agg M] w1 (YesP w1 (fewV x)):=by rw[HM.out];exact Few_any HI1.out
 go_upto_region 3 with fail
 refine wp_region_list ?_
 refine wpList_load_mid rfl _ _ rfl g 0 rfl M.toList _ HK1.out.rng rfl rfl (by rw[HS1.out];rfl) ?_
 simp only[Array.toArray_toList]
 cases hf:fewV x with
 | false =>
  rw[hf] at cF
  clear hf
  go_wp2_with fail
  refine cF.mono ?_
  rintro e w2 ⟨rfl,hb2⟩
  have HB2:=lh (HB1.out.trans (hb2.mono HB1.out.size))
  clear cF hb2
  go_wp2_with fail
  go_ret
  exact⟨rfl,HB2.out⟩
 | true =>
  rw[hf] at cF
  have HPX:=lh (few_p HTT.out.1 hf)
  clear hf
  go_wp2_with fail
  refine cF.mono ?_
  rintro e w2 ⟨rfl,hb2⟩
  clear cF
  have HB2:=lh (HB1.out.trans (hb2.mono HB1.out.size))
  have HK2:=lh (HK1.out.below hb2 HK1.out.lt)
  have HJ2:=lh (HJ1.out.below hb2 HJ1.out.lt)
  have HI2:=lh (HI1.out.below hb2)
  have HY2:=lh (HY1.out.below hb2)
  clear hb2
  have cG:Calls Tryz.prog 11 #[.agg L] w2 (YesP w2 (fewV y)):=by rw[HL.out];exact Few_any HY2.out
  cases hf:fewV y with
  | false =>
   rw[hf] at cG
   clear hf
   go_wp2_with (first | (refine wpList_load_g rfl _ _ rfl (g+1) 0 rfl L.toList _ HJ2.out.rng rfl rfl (by rw[HS2.out];rfl) ?_;simp only[Array.toArray_toList]) | fail)
   refine cG.mono ?_
   rintro e w3 ⟨rfl,hb3⟩
   have HB3:=lh (HB2.out.trans (hb3.mono HB2.out.size))
   clear cG hb3
   go_wp2_with fail
   go_ret
   exact⟨rfl,HB3.out⟩
  | true =>
   rw[hf] at cG
   have HPY:=lh (few_p HTT.out.2 hf)
   clear hf
   go_wp2_with (first | (refine wpList_load_g rfl _ _ rfl (g+1) 0 rfl L.toList _ HJ2.out.rng rfl rfl (by rw[HS2.out];rfl) ?_;simp only[Array.toArray_toList]) | fail)
   refine cG.mono ?_
   rintro e w3 ⟨rfl,hb3⟩
   clear cG
   have HB3:=lh (HB2.out.trans (hb3.mono HB2.out.size))
   have HK3:=lh (HK2.out.below hb3 HK2.out.lt)
   have HJ3:=lh (HJ2.out.below hb3 HJ2.out.lt)
   have HI3:=lh (HI2.out.below hb3)
   have HY3:=lh (HY2.out.below hb3)
   clear hb3
   have cV4:Calls Tryz.prog 12 #[.agg M] w3 (YesP w3 (msV x)):=by rw[HM.out];exact Valid_any HI3.out HPX.out (encMs_le HPX.out)
   cases hv:msV x with
   | false =>
    rw[hv] at cV4
    clear hv
    go_wp2_with (first | (refine wpList_load_g rfl _ _ rfl g 0 rfl M.toList _ HK3.out.rng rfl rfl (by rw[HS1.out];rfl) ?_;simp only[Array.toArray_toList]) | fail)
    refine cV4.mono ?_
    rintro e w4 ⟨rfl,hb4⟩
    have HB4:=lh (HB3.out.trans (hb4.mono HB3.out.size))
    clear cV4 hb4
    go_wp2_with fail
    go_ret
    exact⟨rfl,HB4.out⟩
   | true =>
    rw[hv] at cV4
    have HVX:=lh hv
    clear hv
    go_wp2_with (first | (refine wpList_load_g rfl _ _ rfl g 0 rfl M.toList _ HK3.out.rng rfl rfl (by rw[HS1.out];rfl) ?_;simp only[Array.toArray_toList]) | fail)
    refine cV4.mono ?_
    rintro e w4 ⟨rfl,hb4⟩
    clear cV4
    have HB4:=lh (HB3.out.trans (hb4.mono HB3.out.size))
    have HK4:=lh (HK3.out.below hb4 HK3.out.lt)
    have HJ4:=lh (HJ3.out.below hb4 HJ3.out.lt)
    have HI4:=lh (HI3.out.below hb4)
    have HY4:=lh (HY3.out.below hb4)
    clear hb4
    have cV5:Calls Tryz.prog 12 #[.agg L] w4 (YesP w4 (msV y)):=by rw[HL.out];exact Valid_any HY4.out HPY.out (encMs_le HPY.out)
    cases hv:msV y with
    | false =>
     rw[hv] at cV5
     clear hv
     go_wp2_with (first | (refine wpList_load_g rfl _ _ rfl (g+1) 0 rfl L.toList _ HJ4.out.rng rfl rfl (by rw[HS2.out];rfl) ?_;simp only[Array.toArray_toList]) | fail)
     refine cV5.mono ?_
     rintro e w5 ⟨rfl,hb5⟩
     have HB5:=lh (HB4.out.trans (hb5.mono HB4.out.size))
     clear cV5 hb5
     go_wp2_with fail
     go_ret
     exact⟨rfl,HB5.out⟩
    | true =>
     rw[hv] at cV5
     have HVY:=lh hv
     clear hv
     go_wp2_with (first | (refine wpList_load_g rfl _ _ rfl (g+1) 0 rfl L.toList _ HJ4.out.rng rfl rfl (by rw[HS2.out];rfl) ?_;simp only[Array.toArray_toList]) | fail)
     refine cV5.mono ?_
     rintro e w5 ⟨rfl,hb5⟩
     clear cV5
     have HB5:=lh (HB4.out.trans (hb5.mono HB4.out.size))
     have HK5:=lh (HK4.out.below hb5 HK4.out.lt)
     have HJ5:=lh (HJ4.out.below hb5 HJ4.out.lt)
     have HI5:=lh (HI4.out.below hb5)
     have HY5:=lh (HY4.out.below hb5)
     clear hb5
     obtain⟨la,hla⟩:∃ la,la=encMs x:=⟨_,rfl⟩
     obtain⟨lb,hlb⟩:∃ lb,lb=encMs y:=⟨_,rfl⟩
     have HLA:Hid (la.length≤2147483648∧B8 la∧dms la=(x,0)):=lh (by rw[hla];exact⟨encMs_le HPX.out,encMs_b8 HPX.out,dms_enc HPX.out HVX.out⟩)
     have HLB:Hid (lb.length≤2147483648∧B8 lb∧dms lb=(y,0)):=lh (by rw[hlb];exact⟨encMs_le HPY.out,encMs_b8 HPY.out,dms_enc HPY.out HVY.out⟩)
     obtain⟨z,hz⟩:∃ z,z=decide (x=y):=⟨_,rfl⟩
     have HZ:Hid (((txt la).toList == (txt lb).toList)=z):=lh (by rw[txt_dec HLA.out.2.1 HLB.out.2.1,hz,hla,hlb];exact decide_eq_decide.2 ⟨encMs_inj HPX.out HPY.out,fun h=>by rw[h]⟩)
     have HZZ:=lh hz
     have cE:Calls Tryz.prog 13 #[.agg M] w5 fun e w'=>∃ v,e=.returned (.tuple #[v,.int .i64 0])∧w'.ownsRow w5.heap.size 5 1 v la.length (byts la)∧Below w5.heap.size w5 w':=by
      have:=Encode_any HI5.out HPX.out (encMs_le HPX.out)
      rw[HVX.out,if_pos rfl,if_pos rfl,← hla,← HM.out] at this
      exact this
     have HEB:Hid (∀ W',Below w5.heap.size w5 W'→Calls Tryz.prog 13 #[.agg L] W' fun e w'=>∃ v,e=.returned (.tuple #[v,.int .i64 0])∧w'.ownsRow W'.heap.size 5 1 v lb.length (byts lb)∧Below W'.heap.size W' w'):=lh fun W' hb=>by
      have:=Encode_any (HY5.out.below hb) HPY.out (encMs_le HPY.out)
      rw[HVY.out,if_pos rfl,if_pos rfl,← hlb,← HL.out] at this
      exact this
     clear hla hlb hz
     go_upto_region 5 with fail
     refine wp_region_list ?_
     refine wpList_load_mid rfl _ _ rfl g 0 rfl M.toList _ HK5.out.rng rfl rfl (by rw[HS1.out];rfl) ?_
     simp only[Array.toArray_toList]
     go_upto_region 6 with (go_at_call 13;refine cE.mono ?_;rintro e w6 ⟨v6,rfl,ho6,hb6⟩)
     obtain⟨Aa,ca,ha6,sa6,pa,qa⟩:=own_rowC ho6
     subst ha6
     have HRA:=lh (And.intro pa qa)
     have HSA6:=lh sa6
     have cE2:=HEB.out w6 hb6
     clear cE ho6 sa6 pa qa
     have HB6:=lh (HB5.out.trans (hb6.mono HB5.out.size))
     have HK6:=lh (HK5.out.below hb6 HK5.out.lt)
     have HJ6:=lh (HJ5.out.below hb6 HJ5.out.lt)
     have HI6:=lh (HI5.out.below hb6)
     have HY6:=lh (HY5.out.below hb6)
     clear hb6
     refine wp_region_list ?_
     refine wpList_load_mid rfl _ _ rfl (g+1) 0 rfl L.toList _ HJ6.out.rng rfl rfl (by rw[HS2.out];rfl) ?_
     simp only[Array.toArray_toList]
     go_upto_region 7 with (go_at_call 13;refine cE2.mono ?_;rintro e w7 ⟨v7,rfl,ho7,hb7⟩)
     obtain⟨Ab,cb,hb7',sb7,pb,qb⟩:=own_rowC ho7
     subst hb7'
     have HRB:=lh (And.intro pb qb)
     have HSB7:=lh sb7
     have HSA7:=lh (HSA6.out.below hb7)
     clear cE2 ho7 sb7 pb qb HEB
     have HB7:=lh (HB6.out.trans (hb7.mono HB6.out.size))
     have HK7:=lh (HK6.out.below hb7 HK6.out.lt)
     have HJ7:=lh (HJ6.out.below hb7 HJ6.out.lt)
     have HI7:=lh (HI6.out.below hb7)
     have HY7:=lh (HY6.out.below hb7)
     clear hb7
     have HSM:Hid (∀ W',Below w7.heap.size w7 W'→Calls Tryz.prog 14 #[.agg M,.agg L] W' (YesP W' z)):=lh fun W' hb=>by
      have:=Same_any (HI7.out.below hb) (HY7.out.below hb)
      rw[← HZZ.out,← HM.out,← HL.out] at this
      exact this
     have HNB:Hid (∀ WW,(binOp .neq 4 (.bool z) (.bool z)).run Tryz.prog WW=.ok (.bool false) WW):=lh fun WW=>by rw[neq_bool];simp
     refine wp_region_addsG 16 (fun i=>([[],[0],[1],[2],[2,3],[2,4],[5],[6],[6,7],[6],[6,9],[6,8,10],[6],[6],[6,12,13],[6,11,14]]:List (List Nat)).getD i []) (EL [Ent.val (.int .i64 0),Ent.val (.bool false),Ent.val (.bool false),Ent.val (.int .i64 0),Ent.val (.bool false),Ent.val (.bool false),Ent.val (.bool false),Ent.val (.slice Aa la.length ca),Ent.val (.string (txt la)),Ent.val (.slice Ab lb.length cb),Ent.val (.string (txt lb)),Ent.val (.bool z),Ent.val (.agg M),Ent.val (.agg L),Ent.val (.bool z),Ent.val (.bool false)]) (by kernel_rfl) (by kernel_rfl) (by kernel_rfl) (by rfl) ?_ ?_ ?_
     ·intro i hi o ho g b hgb vs v w8 hR
      rcases (show i=0 ∨ i=1 ∨ i=2 ∨ i=3 ∨ i=4 ∨ i=5 ∨ i=6 ∨ i=7 ∨ i=8 ∨ i=9 ∨ i=10 ∨ i=11 ∨ i=12 ∨ i=13 ∨ i=14 ∨ i=15 by omega) with rfl | rfl | rfl | rfl | rfl | rfl | rfl | rfl | rfl | rfl | rfl | rfl | rfl | rfl | rfl | rfl <;> cases ho <;> first | (cases hgb;exact hR) | cases hgb
     ·intro i hi o ho vs w8 hb1 hgr
      rcases (show i=0 ∨ i=1 ∨ i=2 ∨ i=3 ∨ i=4 ∨ i=5 ∨ i=6 ∨ i=7 ∨ i=8 ∨ i=9 ∨ i=10 ∨ i=11 ∨ i=12 ∨ i=13 ∨ i=14 ∨ i=15 by omega) with rfl | rfl | rfl | rfl | rfl | rfl | rfl | rfl | rfl | rfl | rfl | rfl | rfl | rfl | rfl | rfl <;> cases ho
      ·clear hgr
       change Made _ (Adds _ _ _) (Sem.run _ (execOp (Act.eval (frm _ _ _ [])) _) _)
       simp only[frm]
       go_simp
       exact adds_val rfl
      ·have h0:vs 0=_:=hgr 0 (by decide)
       clear hgr
       change Made _ (Adds _ _ _) (Sem.run _ (execOp (Act.eval (Act.put (frm _ _ _ []) (some 43) (vs 0))) _) _)
       simp only[frm,h0]
       go_simp
       exact adds_val rfl
      ·have h1:vs 1=_:=hgr 1 (by decide)
       clear hgr
       change Made _ (Adds _ _ _) (Sem.run _ (execOp (Act.eval (Act.put (frm _ _ _ []) (some 44) (vs 1))) _) _)
       simp only[frm,h1]
       go_simp
       exact adds_val rfl
      ·have h2:vs 2=_:=hgr 2 (by decide)
       clear hgr
       change Made _ (Adds _ _ _) (Sem.run _ (execOp (Act.eval (Act.put (frm _ _ _ []) (some 45) (vs 2))) _) _)
       simp only[frm,h2]
       go_simp
       exact adds_val rfl
      ·have h2:vs 2=_:=hgr 2 (by decide)
       have h3:vs 3=_:=hgr 3 (by decide)
       clear hgr
       change Made _ (Adds _ _ _) (Sem.run _ (execOp (Act.eval (Act.put (Act.put (frm _ _ _ []) (some 46) (vs 3)) (some 45) (vs 2))) _) _)
       simp only[frm,h2,h3]
       go_simp
       exact adds_val rfl
      ·have h2:vs 2=_:=hgr 2 (by decide)
       have h4:vs 4=_:=hgr 4 (by decide)
       clear hgr
       change Made _ (Adds _ _ _) (Sem.run _ (execOp (Act.eval (Act.put (Act.put (frm _ _ _ []) (some 47) (vs 4)) (some 45) (vs 2))) _) _)
       simp only[frm,h2,h4]
       go_simp
       exact adds_val rfl
      ·have h5:vs 5=_:=hgr 5 (by decide)
       clear hgr
       change Made _ (Adds _ _ _) (Sem.run _ (execOp (Act.eval (Act.put (frm _ _ _ []) (some 48) (vs 5))) _) _)
       simp only[frm,h5]
       go_simp
       exact adds_val rfl
      ·have h6:vs 6=_:=hgr 6 (by decide)
       clear hgr
       change Made _ (Adds _ _ _) (Sem.run _ (execOp (Act.eval (Act.put (frm _ _ _ []) (some 49) (vs 6))) _) _)
       simp only[frm,h6]
       go_simp
       exact adds_val rfl
      ·have h6:vs 6=_:=hgr 6 (by decide)
       have h7:vs 7=_:=hgr 7 (by decide)
       clear hgr
       change Made _ (Adds _ _ _) (Sem.run _ (execOp (Act.eval (Act.put (Act.put (frm _ _ _ []) (some 50) (vs 7)) (some 49) (vs 6))) _) _)
       simp only[frm,h6,h7]
       have hcv:=conv_all (c:=ca) (HSA7.out.below hb1) HRA.out.2
       go_simp
       exact adds_val rfl
      ·have h6:vs 6=_:=hgr 6 (by decide)
       clear hgr
       change Made _ (Adds _ _ _) (Sem.run _ (execOp (Act.eval (Act.put (frm _ _ _ []) (some 49) (vs 6))) _) _)
       simp only[frm,h6]
       go_simp
       exact adds_val rfl
      ·have h6:vs 6=_:=hgr 6 (by decide)
       have h9:vs 9=_:=hgr 9 (by decide)
       clear hgr
       change Made _ (Adds _ _ _) (Sem.run _ (execOp (Act.eval (Act.put (Act.put (frm _ _ _ []) (some 52) (vs 9)) (some 49) (vs 6))) _) _)
       simp only[frm,h6,h9]
       have hcv:=conv_all (c:=cb) (HSB7.out.below hb1) HRB.out.2
       go_simp
       exact adds_val rfl
      ·have h6:vs 6=_:=hgr 6 (by decide)
       have h8:vs 8=_:=hgr 8 (by decide)
       have h10:vs 10=_:=hgr 10 (by decide)
       clear hgr
       change Made _ (Adds _ _ _) (Sem.run _ (execOp (Act.eval (Act.put (Act.put (Act.put (frm _ _ _ []) (some 53) (vs 10)) (some 51) (vs 8)) (some 49) (vs 6))) _) _)
       simp only[frm,h6,h8,h10]
       have hqq:=HZ.out
       go_simp
       exact adds_val rfl
      ·have h6:vs 6=_:=hgr 6 (by decide)
       clear hgr
       change Made _ (Adds _ _ _) (Sem.run _ (execOp (Act.eval (Act.put (frm _ _ _ []) (some 49) (vs 6))) _) _)
       simp only[frm,h6]
       exact adds_load (P:=Tryz.prog) (ty:=42) (b:=g) (o:=0) (A:=M) (by rfl) (by rfl) (HK7.out.below hb1 HK7.out.lt).rng rfl rfl (by rw[HS1.out];rfl)
      ·have h6:vs 6=_:=hgr 6 (by decide)
       clear hgr
       change Made _ (Adds _ _ _) (Sem.run _ (execOp (Act.eval (Act.put (frm _ _ _ []) (some 49) (vs 6))) _) _)
       simp only[frm,h6]
       exact adds_load (P:=Tryz.prog) (ty:=42) (b:=(g+1)) (o:=0) (A:=L) (by rfl) (by rfl) (HJ7.out.below hb1 HJ7.out.lt).rng rfl rfl (by rw[HS2.out];rfl)
      ·have h6:vs 6=_:=hgr 6 (by decide)
       have h12:vs 12=_:=hgr 12 (by decide)
       have h13:vs 13=_:=hgr 13 (by decide)
       clear hgr
       change Made _ (Adds _ _ _) (Sem.run _ (execOp (Act.eval (Act.put (Act.put (Act.put (frm _ _ _ []) (some 56) (vs 13)) (some 55) (vs 12)) (some 49) (vs 6))) _) _)
       simp only[frm,h6,h12,h13]
       have cM:=HSM.out _ hb1
       go_simp
       exact adds_below cM
      ·have h6:vs 6=_:=hgr 6 (by decide)
       have h11:vs 11=_:=hgr 11 (by decide)
       have h14:vs 14=_:=hgr 14 (by decide)
       clear hgr
       change Made _ (Adds _ _ _) (Sem.run _ (execOp (Act.eval (Act.put (Act.put (Act.put (frm _ _ _ []) (some 57) (vs 14)) (some 54) (vs 11)) (some 49) (vs 6))) _) _)
       simp only[frm,h6,h11,h14]
       have hnb:=HNB.out
       go_simp
       exact adds_val rfl
     intro vs w8 hb1 hall hap
     have h6:vs 6=_:=(hall 6 (by omega)).1
     have h15:vs 15=_:=(hall 15 (by omega)).1
     clear hall hap
     change wpList _ _ _ [_] (Act.put (Act.put (Act.put (Act.put (Act.put (Act.put (Act.put (Act.put (Act.put (Act.put (Act.put (Act.put (Act.put (Act.put (Act.put (Act.put (frm _ _ _ []) (some 58) (vs 15)) (some 57) (vs 14)) (some 56) (vs 13)) (some 55) (vs 12)) (some 54) (vs 11)) (some 53) (vs 10)) (some 52) (vs 9)) (some 51) (vs 8)) (some 50) (vs 7)) (some 49) (vs 6)) (some 48) (vs 5)) (some 47) (vs 4)) (some 46) (vs 3)) (some 45) (vs 2)) (some 44) (vs 1)) (some 43) (vs 0)) _
     simp only[frm,h6,h15]
     have HB8:=lh (HB7.out.trans (hb1.mono HB7.out.size))
     have HK8:=lh (HK7.out.below hb1 HK7.out.lt)
     have HJ8:=lh (HJ7.out.below hb1 HJ7.out.lt)
     have HI8:=lh (HI7.out.below hb1)
     have HY8:=lh (HY7.out.below hb1)
     have HSA8:=lh (HSA7.out.below hb1)
     have HSB8:=lh (HSB7.out.below hb1)
     clear hb1
     go_upto_region 9 with fail
     have cD:=Decode_any (c:=ca) HSA8.out HRA.out.1 HLA.out.2.1 HLA.out.1
     rw[HLA.out.2.2] at cD
     refine wp_region_list ?_
     go_wp2_with fail
     refine cD.mono ?_
     rintro e w9 ⟨rN,rfl,hiN,hb9⟩
     dsimp only at hiN
     have hqN:rN.toArray.toList.length=39:=hiN.len
     obtain⟨N,hnN⟩:∃ N,N=rN.toArray:=⟨_,rfl⟩
     rw[← hnN] at hqN ⊢
     have hpN:N.size=39:=by rw[Array.length_toList] at hqN;exact hqN
     have h1N:N.all (·.oneCell')=true:=by rw[hnN];exact msOne hiN
     have HNN:=lh hnN
     have HQN:=lh hqN
     have HPN:=lh hpN
     have HCN:=lh h1N
     have HIN:=lh hiN
     have HSB9:=lh (HSB8.out.below hb9)
     clear hiN hqN hpN h1N hnN cD
     have HB9:=lh (HB8.out.trans (hb9.mono HB8.out.size))
     have HK9:=lh (HK8.out.below hb9 HK8.out.lt)
     have HJ9:=lh (HJ8.out.below hb9 HJ8.out.lt)
     have HI9:=lh (HI8.out.below hb9)
     have HY9:=lh (HY8.out.below hb9)
     clear hb9
     go_upto_region 10 with (first | (refine wpList_store_rowK (P:=Tryz.prog) rfl 42 _ _ rfl w9.heap.size N rfl rfl _ _ (heap_alloc_new w9 _) (by rw[HPN.out];rfl) (by rw[HPN.out];rfl) HCN.out ?_;intro w10 hk10 hp10) | fail)
     have hb10:Below w9.heap.size w9 w10:=hp10.toBelow (below_one _ _) (by simp) fun j e=>by omega
     obtain⟨gN,hgN⟩:∃ gN,gN=w9.heap.size:=⟨_,rfl⟩
     rw[← hgN] at hk10 ⊢
     have HGN:=lh hk10
     have HXN:=lh (HIN.out.below hb10)
     have HSB10:=lh (HSB9.out.below hb10)
     clear hk10 hp10 hgN
     have HB10:=lh (HB9.out.trans (hb10.mono HB9.out.size))
     have HK10:=lh (HK9.out.below hb10 HK9.out.lt)
     have HJ10:=lh (HJ9.out.below hb10 HJ9.out.lt)
     have HI10:=lh (HI9.out.below hb10)
     have HY10:=lh (HY9.out.below hb10)
     clear hb10
     have cD2:=Decode_any (c:=cb) HSB10.out HRB.out.1 HLB.out.2.1 HLB.out.1
     rw[HLB.out.2.2] at cD2
     refine wp_region_list ?_
     go_wp2_with fail
     refine cD2.mono ?_
     rintro e w11 ⟨rO,rfl,hiO,hb11⟩
     dsimp only at hiO
     have hqO:rO.toArray.toList.length=39:=hiO.len
     obtain⟨O,hnO⟩:∃ O,O=rO.toArray:=⟨_,rfl⟩
     rw[← hnO] at hqO ⊢
     have hpO:O.size=39:=by rw[Array.length_toList] at hqO;exact hqO
     have h1O:O.all (·.oneCell')=true:=by rw[hnO];exact msOne hiO
     have HNO:=lh hnO
     have HQO:=lh hqO
     have HPO:=lh hpO
     have HCO:=lh h1O
     have HIO:=lh hiO
     have HGN11:=lh (HGN.out.below hb11 HGN.out.lt)
     have HXN11:=lh (HXN.out.below hb11)
     clear hiO hqO hpO h1O hnO cD2
     have HB11:=lh (HB10.out.trans (hb11.mono HB10.out.size))
     have HK11:=lh (HK10.out.below hb11 HK10.out.lt)
     have HJ11:=lh (HJ10.out.below hb11 HJ10.out.lt)
     have HI11:=lh (HI10.out.below hb11)
     have HY11:=lh (HY10.out.below hb11)
     clear hb11
     go_upto_region 11 with (first | (refine wpList_store_rowK (P:=Tryz.prog) rfl 42 _ _ rfl w11.heap.size O rfl rfl _ _ (heap_alloc_new w11 _) (by rw[HPO.out];rfl) (by rw[HPO.out];rfl) HCO.out ?_;intro w12 hk12 hp12) | fail)
     have hb12:Below w11.heap.size w11 w12:=hp12.toBelow (below_one _ _) (by simp) fun j e=>by omega
     obtain⟨gO,hgO⟩:∃ gO,gO=w11.heap.size:=⟨_,rfl⟩
     rw[← hgO] at hk12 ⊢
     have HGO:=lh hk12
     have HXO:=lh (HIO.out.below hb12)
     have HGN12:=lh (HGN11.out.below hb12 HGN11.out.lt)
     have HXN12:=lh (HXN11.out.below hb12)
     clear hk12 hp12 hgO
     have HB12:=lh (HB11.out.trans (hb12.mono HB11.out.size))
     have HK12:=lh (HK11.out.below hb12 HK11.out.lt)
     have HJ12:=lh (HJ11.out.below hb12 HJ11.out.lt)
     have HI12:=lh (HI11.out.below hb12)
     have HY12:=lh (HY11.out.below hb12)
     clear hb12
     have cS:Calls Tryz.prog 14 #[.agg N,.agg M] w12 (YesP w12 true):=by
      have:=Same_any HXN12.out HI12.out
      rw[decide_eq_true rfl,← HNN.out,← HM.out] at this
      exact this
     have HSO:Hid (∀ W',Below w12.heap.size w12 W'→Calls Tryz.prog 14 #[.agg O,.agg L] W' (YesP W' true)):=lh fun W' hb=>by
      have:=Same_any (HXO.out.below hb) (HY12.out.below hb)
      rw[decide_eq_true rfl,← HNO.out,← HL.out] at this
      exact this
     refine wp_region_list ?_
     go_wp2_with (first | (refine wpList_load_g rfl _ _ rfl gN 0 rfl N.toList _ HGN12.out.rng rfl rfl (by rw[HQN.out];rfl) ?_;simp only[Array.toArray_toList]) | (refine wpList_load_g rfl _ _ rfl g 0 rfl M.toList _ HK12.out.rng rfl rfl (by rw[HS1.out];rfl) ?_;simp only[Array.toArray_toList]) | fail)
     refine cS.mono ?_
     rintro e w13 ⟨rfl,hb13⟩
     have HB13:=lh (HB12.out.trans (hb13.mono HB12.out.size))
     have HJ13:=lh (HJ12.out.below hb13 HJ12.out.lt)
     have HGO13:=lh (HGO.out.below hb13 HGO.out.lt)
     have cS2:=HSO.out w13 hb13
     clear cS hb13 HSO
     go_wp2_with (first | (refine wpList_load_g rfl _ _ rfl gO 0 rfl O.toList _ HGO13.out.rng rfl rfl (by rw[HQO.out];rfl) ?_;simp only[Array.toArray_toList]) | (refine wpList_load_g rfl _ _ rfl (g+1) 0 rfl L.toList _ HJ13.out.rng rfl rfl (by rw[HS2.out];rfl) ?_;simp only[Array.toArray_toList]) | fail)
     refine cS2.mono ?_
     rintro e w14 ⟨rfl,hb14⟩
     have HB14:=lh (HB13.out.trans (hb14.mono HB13.out.size))
     clear cS2 hb14
     go_wp2_with fail
     go_ret
     exact⟨rfl,HB14.out⟩
end
end
end Go.Proofs.YtmbnlccafcfbeaaGreatDoor
