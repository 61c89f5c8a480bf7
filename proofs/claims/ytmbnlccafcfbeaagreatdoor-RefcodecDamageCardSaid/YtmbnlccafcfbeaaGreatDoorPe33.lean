/- Parts of the proof: RcO3, RcAw, LwB, LwD, LwF. -/
import Derived.Test.YtmbnlccafcfbeaaGreatDoorPeA
import Derived.Test.YtmbnlccafcfbeaaGreatDoorPe26
import Derived.Test.YtmbnlccafcfbeaaGreatDoorPe30
import Derived.Test.YtmbnlccafcfbeaaGreatDoorPe32
set_option linter.unusedVariables false
set_option linter.unusedSimpArgs false
set_option linter.unusedSectionVars false
set_option maxRecDepth 100000
namespace Go.Proofs.YtmbnlccafcfbeaaGreatDoor
section
open Go.RowKit
theorem encS_lenR {s:ByteArray} (h:sP s):(encS s).length≤4105:=by
 have h1:(s.size:Int)≤4096:=h
 have h2:=encU_len (n:=(s.size:Int)) (by omega)
 unfold encS
 rw[List.length_append]
 have h3:(bts s).length=s.size:=by simp[bts]
 omega
theorem encL_lenR {α:Type} {f:α→List Int} {l:List α} {P:α→Prop} (h:lP P l) (b:Nat) (hb:∀ x,P x→(f x).length≤b):(encL f l).length≤9+b*1024:=by
 have h1:=encU_len (n:=(l.length:Int)) (by have:=h.1;omega)
 have h2:∀ k:List α,(∀ x∈k,P x)→(k.flatMap f).length≤b*k.length:=fun k=>by
  induction k with
  | nil=>intro _;simp
  | cons x r ih =>
   intro hk
   have:=ih fun y hy=>hk y (List.mem_cons_of_mem _ hy)
   have:=hb x (hk x (List.mem_cons_self ..))
   rw[List.flatMap_cons,List.length_append,List.length_cons,Nat.mul_succ]
   omega
 have h3:=h2 l h.2
 have h4:b*l.length≤b*1024:=Nat.mul_le_mul_left b (by have:=h.1;omega)
 unfold encL
 rw[List.length_append]
 omega
theorem encLt_len {x:Lt} (h:ltP x):(encLt x).length≤69668:=by
 have h1:=encI_lenR h.1
 have h2:=encI_lenR h.2.1
 have h3:=encS_lenR h.2.2.1
 have h4:=encL_lenR (f:=encRf) h.2.2.2 64 fun x hx=>encRf_len hx
 unfold encLt
 simp only[List.length_append]
 omega
theorem encWa_len {x:Wa} (h:waP x):(encWa x).length≤4196:=by
 have h1:=encI_lenR h.1
 have h2:=encI_lenR h.2.1
 have h3:=encS_lenR h.2.2.1
 have h4:=encI_lenR h.2.2.2.1
 have h5:=encRf_len h.2.2.2.2
 unfold encWa
 simp only[List.length_append]
 omega
theorem encPc_len {x:Pc} (h:pcP x):(encPc x).length≤75702344:=by
 have h1:=encU_len h.1.2
 have h2:=encI_lenR h.2.1
 have h3:=encI_lenR h.2.2.1
 have h4:=encI_lenR h.2.2.2.1
 have h5:=encI_lenR h.2.2.2.2.1
 have h6:=encL_lenR (f:=encRf) h.2.2.2.2.2.1 64 fun x hx=>encRf_len hx
 have h7:=encL_lenR (f:=encLt) h.2.2.2.2.2.2.1 69668 fun x hx=>encLt_len hx
 have h8:=encL_lenR (f:=encWa) h.2.2.2.2.2.2.2 4196 fun x hx=>encWa_len hx
 unfold encPc
 simp only[List.length_append]
 omega
theorem encAn_len {x:An} (h:anP x):(encAn x).length≤27704:=by
 have h1:=encI_lenR h.1
 have h2:=encI_lenR h.2.1
 have h3:=encI_lenR h.2.2.1
 have h4:=encI_lenR h.2.2.2.1
 have h5:=encU_len h.2.2.2.2.1.2
 have h6:=encB_one x.known
 have h7:=encB_one x.rooted
 have h8:=encL_lenR (f:=encIn) h.2.2.2.2.2 27 fun(y:In) (hy:inP y)=>by
  have a:=encI_lenR hy.1
  have b:=encI_lenR hy.2.1
  have c:=encU_len hy.2.2.2
  show(encIn y).length≤27
  unfold encIn
  simp only[List.length_append]
  omega
 unfold encAn
 simp only[List.length_append]
 omega
theorem encNd_len {y:Nd} (hy:ndP y):(encNd y).length≤27:=by
 have a:=encI_lenR hy.1
 have b:=encI_lenR hy.2.1
 have c:=encU_len hy.2.2.2
 unfold encNd
 simp only[List.length_append]
 omega
theorem encCl_len {x:Cl} (h:clP x):(encCl x).length≤82989:=by
 have h1:=encI_lenR h.1
 have h2:=encI_lenR h.2.1
 have h3:=encL_lenR (f:=encNd) h.2.2.1 27 fun x hx=>encNd_len hx
 have h4:=encL_lenR (f:=encNd) h.2.2.2.1 27 fun x hx=>encNd_len hx
 have h5:=encL_lenR (f:=encNd) h.2.2.2.2 27 fun x hx=>encNd_len hx
 unfold encCl
 simp only[List.length_append]
 omega
theorem encMs_len {x:Ms} (h:msP x):(encMs x).length≤80000000:=by
 obtain⟨h1,h2,h3,h4,h5,h6,h7,h8,h9,h10,h11⟩:=h
 have a1:=encI_lenR h1
 have a2:=encI_lenR h2
 have a3:=encI_lenR h3
 have a4:=encI_lenR h4
 have a5:=encU_len h5.2
 have a6:=encS_lenR h6
 have a7:=encRf_len h7
 have a8:=encLt_len h8
 have a9:=encPc_len h9
 have b1:=encAn_len h10
 have b2:=encCl_len h11
 unfold encMs
 simp only[List.length_append]
 omega
theorem encL_b8R {α:Type} {f:α→List Int} {l:List α} {P:α→Prop} (h:lP P l) (hb:∀ x,P x→B8 (f x)):B8 (encL f l):=by
 refine(encU_b8 (by have:=h.1;omega)).app ?_
 intro y hy
 obtain⟨x,hx,hy⟩:=List.mem_flatMap.1 hy
 exact hb x (h.2 x hx) y hy
theorem encI_b8R {n:Int} (h:I64 n):B8 (encI n):=encU_b8 (zz_rg h).2
theorem encS_b8R {s:ByteArray} (h:sP s):B8 (encS s):=(encU_b8 (by have:(s.size:Int)≤4096:=h;omega)).app (bts_b8 s)
theorem encB_b8R (x:Bool):B8 (encB x):=by cases x <;> exact B8.one (by decide) (by decide)
theorem encRf_b8 {x:Rf} (h:rfP x):B8 (encRf x) :=
 ((((((encI_b8R h.1).app (encI_b8R h.2.1)).app (encI_b8R h.2.2.1)).app (encI_b8R h.2.2.2.1)).app (encU_b8 h.2.2.2.2.1.2)).app ((encI_b8R h.2.2.2.2.2.1).app (encI_b8R h.2.2.2.2.2.2))).app (encB_b8R _)
theorem encLt_b8 {x:Lt} (h:ltP x):B8 (encLt x):=(((encI_b8R h.1).app (encI_b8R h.2.1)).app (encS_b8R h.2.2.1)).app (encL_b8R h.2.2.2 fun x hx=>encRf_b8 hx)
theorem encWa_b8 {x:Wa} (h:waP x):B8 (encWa x):=((((encI_b8R h.1).app (encI_b8R h.2.1)).app (encS_b8R h.2.2.1)).app (encI_b8R h.2.2.2.1)).app (encRf_b8 h.2.2.2.2)
theorem encPc_b8 {x:Pc} (h:pcP x):B8 (encPc x) :=
 (((((encU_b8 h.1.2).app ((encI_b8R h.2.1).app (encI_b8R h.2.2.1))).app ((encI_b8R h.2.2.2.1).app (encI_b8R h.2.2.2.2.1))).app (encL_b8R h.2.2.2.2.2.1 fun x hx=>encRf_b8 hx)).app (encL_b8R h.2.2.2.2.2.2.1 fun x hx=>encLt_b8 hx)).app (encL_b8R h.2.2.2.2.2.2.2 fun x hx=>encWa_b8 hx)
theorem encIn_b8 {x:In} (h:inP x):B8 (encIn x):=((encI_b8R h.1).app (encI_b8R h.2.1)).app (encU_b8 h.2.2.2)
theorem encNd_b8 {x:Nd} (h:ndP x):B8 (encNd x):=((encI_b8R h.1).app (encI_b8R h.2.1)).app (encU_b8 h.2.2.2)
theorem encAn_b8 {x:An} (h:anP x):B8 (encAn x) :=
 ((((((encI_b8R h.1).app (encI_b8R h.2.1)).app (encI_b8R h.2.2.1)).app (encI_b8R h.2.2.2.1)).app (encU_b8 h.2.2.2.2.1.2)).app (encB_b8R _)).app (encB_b8R _) |>.app (encL_b8R h.2.2.2.2.2 fun x hx=>encIn_b8 hx)
theorem encCl_b8 {x:Cl} (h:clP x):B8 (encCl x) :=
 ((((encI_b8R h.1).app (encI_b8R h.2.1)).app (encL_b8R h.2.2.1 fun x hx=>encNd_b8 hx)).app (encL_b8R h.2.2.2.1 fun x hx=>encNd_b8 hx)).app (encL_b8R h.2.2.2.2 fun x hx=>encNd_b8 hx)
theorem encMs_b8 {x:Ms} (h:msP x):B8 (encMs x):=by
 obtain⟨h1,h2,h3,h4,h5,h6,h7,h8,h9,h10,h11⟩:=h
 exact((((((((((encI_b8R h1).app (encI_b8R h2)).app (encI_b8R h3)).app (encI_b8R h4)).app (encU_b8 h5.2)).app (encS_b8R h6)).app (encRf_b8 h7)).app (encLt_b8 h8)).app (encPc_b8 h9)).app (encAn_b8 h10)).app (encCl_b8 h11)
end
section
open Go.RowKit Go.Sort
attribute [local go_sem] Oper.semAt_some
def args0:List Rf:=[⟨0,0,0,0,0,0,0,false⟩,⟨1,5,0,0,0,0,0,false⟩,⟨3,0,2,9,1,4,0,false⟩]
def x0:Ms:={ Ms.zero with number:=7,letter:=⟨1,3,⟨#[104,105,116]⟩,args0⟩ }
def row0M (b1:Nat):Array Value:=#[.int .i64 0,.int .u64 7,.int .i64 0,.string ⟨#[]⟩,.int .i64 0,.int .i64 0,.int .i64 0,.int .u64 0,.int .i64 0,.int .i64 0,.int .i64 0,.bool false,.int .i64 1,.int .i64 3,.string ⟨#[104,105,116]⟩,.slice (some ⟨b1,0,none⟩) 3 3,.int .u64 0,.int .i64 0,.int .i64 0,.int .i64 0,.int .i64 0,.slice none 0 0,.slice none 0 0,.slice none 0 0,.int .i64 0,.int .i64 0,.int .i64 0,.int .i64 0,.int .u64 0,.int .i64 0,.bool false,.bool false,.int .i64 0,.slice none 0 0,.int .i64 0,.int .i64 0,.slice none 0 0,.slice none 0 0,.slice none 0 0]
theorem x0_p:msP x0:=by
 obtain⟨zp,zi,zs,zr,zl,zc,za,zq⟩:=zero_p
 have i:∀ n:Int,0≤n→n≤100→I64 n:=fun n h1 h2=>by unfold I64;omega
 refine⟨zi,zi,zi,zi,by show P64 7;unfold P64;omega,zs,zr,⟨i 1 (by omega) (by omega),i 3 (by omega) (by omega),by show sP ⟨#[104,105,116]⟩;unfold sP;decide,?_⟩,zc,za,zq⟩
 show lP rfP args0
 refine⟨by decide,fun x hx=>?_⟩
 have:x=⟨0,0,0,0,0,0,0,false⟩ ∨ x=⟨1,5,0,0,0,0,0,false⟩ ∨ x=⟨3,0,2,9,1,4,0,false⟩:=by simpa [args0] using hx
 rcases this with rfl | rfl | rfl <;> refine⟨i _ ?_ ?_,i _ ?_ ?_,i _ ?_ ?_,i _ ?_ ?_,?_,i _ ?_ ?_,i _ ?_ ?_⟩ <;> first | decide | (show P64 _;unfold P64;decide)
theorem x0_v:msV x0=true:=by decide
theorem dms_enc {x:Ms} (h:msP x) (hv:msV x=true):dms (encMs x)=(x,0):=by
 have:=codMs.fw x [] h
 rw[List.append_nil] at this
 unfold dms
 rw[this]
 simp[hv]
theorem dec_one {n:Nat} (h:n < 10):dec (n:Int)=⟨#[UInt8.ofNat (48+n)]⟩:=by rw[← dec_nat,Lib.decDigits_one h]
theorem x0_t:fmtV x0=⟨#[100,101,108,105,118,101,114,32,55,32,109,49,58,51,32,104,105,116,40,110,105,108,44,32,53,44,32,111,117,116,32,50,47,57,32,109,49,58,52,41]⟩:=by
 unfold fmtV
 rw[x0_v,if_pos rfl]
 have e1:dec 1=⟨#[49]⟩:=dec_one (n:=1) (by omega)
 have e2:dec 2=⟨#[50]⟩:=dec_one (n:=2) (by omega)
 have e3:dec 3=⟨#[51]⟩:=dec_one (n:=3) (by omega)
 have e4:dec 4=⟨#[52]⟩:=dec_one (n:=4) (by omega)
 have e5:dec 5=⟨#[53]⟩:=dec_one (n:=5) (by omega)
 have e7:dec 7=⟨#[55]⟩:=dec_one (n:=7) (by omega)
 have e9:dec 9=⟨#[57]⟩:=dec_one (n:=9) (by omega)
 have i1:idT 1 3=⟨#[109,49,58,51]⟩:=by unfold idT;rw[if_pos (by decide),e1,e3];rfl
 have i2:idT 1 4=⟨#[109,49,58,52]⟩:=by unfold idT;rw[if_pos (by decide),e1,e4];rfl
 have r0:rfT ⟨0,0,0,0,0,0,0,false⟩=⟨#[110,105,108]⟩:=rfl
 have r1:rfT ⟨1,5,0,0,0,0,0,false⟩=⟨#[53]⟩:=by show dec 5=_;exact e5
 have r2:rfT ⟨3,0,2,9,1,4,0,false⟩=⟨#[111,117,116,32,50,47,57,32,109,49,58,52]⟩:=by
  show⟨#[111,117,116,32]⟩++dec 2++⟨#[47]⟩++dec 9++⟨#[32]⟩++idT 1 4=_
  rw[e2,e9,i2];rfl
 show kS 0++(⟨#[32]⟩++dec 7++⟨#[32]⟩++idT 1 3++⟨#[32]⟩++⟨#[104,105,116]⟩++lsT args0)=_
 have l0:lsT args0=⟨#[40,110,105,108,44,32,53,44,32,111,117,116,32,50,47,57,32,109,49,58,52,41]⟩:=by
  unfold lsT args0
  rw[List.map_cons,List.map_cons,List.map_cons,List.map_nil,r0,r1,r2]
  rfl
 rw[e7,i1,l0]
 rfl
theorem x0_len:(encMs x0).length≤2147483648∧0 < (encMs x0).length:=by
 have h1:=encMs_len x0_p
 have h2:=encI_one x0.kind
 refine⟨by omega,?_⟩
 unfold encMs
 simp only[List.length_append]
 omega
set_option maxHeartbeats 4000000 in
theorem row0_in {w:World} {b1:Nat} (h:Bk w b1 26 #[.int .i64 0,.int .i64 0,.int .i64 0,.int .u64 0,.int .i64 0,.int .i64 0,.int .i64 0,.bool false,.int .i64 1,.int .i64 5,.int .i64 0,.int .u64 0,.int .i64 0,.int .i64 0,.int .i64 0,.bool false,.int .i64 3,.int .i64 0,.int .i64 2,.int .u64 9,.int .i64 1,.int .i64 4,.int .i64 0,.bool false]):MsI w x0 (row0M b1).toList:=by
 refine⟨some ⟨b1,0,none⟩,3,none,0,none,0,none,0,none,0,none,0,none,0,none,0,rfl,?_,LsR.tnil,LsR.tnil,LsR.tnil,LsR.tnil,LsR.tnil,LsR.tnil,LsR.tnil⟩
 unfold LsR
 rw[if_pos rfl]
 refine⟨by decide,by decide,.inr ⟨b1,0,rfl,h.lt,fun i x hx=>?_⟩⟩
 have hi:i < 3:=(List.getElem?_eq_some_iff.1 hx).1
 rcases (show i=0 ∨ i=1 ∨ i=2 by omega) with rfl | rfl | rfl <;> cases hx <;> refine⟨_,rfl,rfl,fun j v hv=>⟨?_,h.free _⟩⟩ <;> (have hj:j < 8:=(List.getElem?_eq_some_iff.1 hv).1) <;> rw[h.cell] <;> rcases (show j=0 ∨ j=1 ∨ j=2 ∨ j=3 ∨ j=4 ∨ j=5 ∨ j=6 ∨ j=7 by omega) with rfl | rfl | rfl | rfl | rfl | rfl | rfl | rfl <;> exact hv
set_option maxHeartbeats 8000000 in
theorem awake27 (w:World) (ht:Tb w):Calls Tryz.prog 10 #[] w (YesP w true):=by
 obtain⟨w1,hw1⟩:∃ w1,w1=w.alloc (.cells #[.int .i64 0,.int .i64 0,.int .i64 0,.int .u64 0,.int .i64 0,.int .i64 0,.int .i64 0,.bool false,.int .i64 1,.int .i64 5,.int .i64 0,.int .u64 0,.int .i64 0,.int .i64 0,.int .i64 0,.bool false,.int .i64 3,.int .i64 0,.int .i64 2,.int .u64 9,.int .i64 1,.int .i64 4,.int .i64 0,.bool false] 26):=⟨_,rfl⟩
 obtain⟨b1,hb1⟩:∃ b1,b1=w.heap.size:=⟨_,rfl⟩
 have hB1:Below w.heap.size w w1:=by rw[hw1];exact below_one _ _
 have hq1:Bk w1 b1 26 #[.int .i64 0,.int .i64 0,.int .i64 0,.int .u64 0,.int .i64 0,.int .i64 0,.int .i64 0,.bool false,.int .i64 1,.int .i64 5,.int .i64 0,.int .u64 0,.int .i64 0,.int .i64 0,.int .i64 0,.bool false,.int .i64 3,.int .i64 0,.int .i64 2,.int .u64 9,.int .i64 1,.int .i64 4,.int .i64 0,.bool false]:=by rw[hw1,hb1];exact Bk.new _ _ _
 have HB1:=lh hB1
 have HQ1:=lh hq1
 have HT:=lh ht
 clear hB1 hq1 ht
 go_enter Tryz.func10,Tryz.ntmps10
 go_upto_region 2 with fail
 rw[← hw1,← hb1]
 clear hw1 hb1
 refine wp_region_list ?_
 go_upto_region 3 with (first | (refine wpList_build rfl _ _ rfl (by kernel_rfl) ?_) | (refine wpList_store_rowK rfl _ _ _ rfl w1.heap.size (row0M b1) (by kernel_rfl) (by kernel_rfl) _ _ (heap_alloc_new w1 _) (by kernel_rfl) (by kernel_rfl) (by kernel_rfl) ?_;intro w2 hk2 hp2) | fail)
 have hmi:=row0_in (HQ1.out.below (show Below w1.heap.size w1 w2 from hp2.toBelow (below_one _ _) (by simp) fun j e=>by omega) HQ1.out.lt)
 have hb2:Below w1.heap.size w1 w2:=hp2.toBelow (below_one _ _) (by simp) fun j e=>by omega
 obtain⟨g2,hg2⟩:∃ g2,g2=w1.heap.size:=⟨_,rfl⟩
 rw[← hg2] at hk2 ⊢
 obtain⟨M,hM⟩:∃ M,M=row0M b1:=⟨_,rfl⟩
 obtain⟨r,hr⟩:∃ r,r=(row0M b1).toList:=⟨_,rfl⟩
 rw[← hM] at hk2
 rw[← hr] at hmi
 have hMr:M=r.toArray:=by rw[hM,hr]
 have HSZ:Hid (M.toList.length=39):=lh (by rw[hM];rfl)
 have HM:=lh hMr
 have HI2:=lh hmi
 have HK2:=lh hk2
 have HB2:=lh (HB1.out.trans (hb2.mono HB1.out.size))
 have HT2:=lh (HT.out.below HB2.out)
 obtain⟨l,hl⟩:∃ l,l=encMs x0:=⟨_,rfl⟩
 have HL:Hid (l.length≤2147483648∧B8 l∧dms l=(x0,0)):=lh (by rw[hl];exact⟨x0_len.1,encMs_b8 x0_p,dms_enc x0_p x0_v⟩)
 have hll:0 < l.length:=by rw[hl];exact x0_len.2
 have cE:Calls Tryz.prog 13 #[.agg M] w2 fun e w'=>∃ v,e=.returned (.tuple #[v,.int .i64 0])∧w'.ownsRow w2.heap.size 5 1 v l.length (byts l)∧Below w2.heap.size w2 w':=by
  have:=Encode_any HI2.out x0_p x0_len.1
  rw[x0_v,if_pos rfl,if_pos rfl,← hl,← HM.out] at this
  exact this
 clear hmi hk2 hp2 hb2 hg2 hM hr hMr hl
 refine wp_region_list ?_
 refine wpList_load_mid rfl _ _ rfl g2 0 rfl M.toList _ HK2.out.rng rfl rfl (by rw[HSZ.out];rfl) ?_
 simp only[Array.toArray_toList]
 go_upto_region 4 with (go_at_call 13;refine cE.mono ?_;rintro e w3 ⟨v3,rfl,ho3,hb3⟩)
 obtain⟨A3,c3,rfl,_⟩:=own_shape ho3
 have HB3:=lh (HB2.out.trans (hb3.mono HB2.out.size))
 have HK3:=lh (HK2.out.below hb3 HK2.out.lt)
 have HI3:=lh (HI2.out.below hb3)
 have HT3:=lh (HT2.out.below hb3)
 have cD:=Decode_any (c:=c3) (own_sl ho3) (own_le ho3) HL.out.2.1 HL.out.1
 rw[HL.out.2.2] at cD
 clear cE ho3 hb3
 refine wp_region_list ?_
 go_wp2_with fail
 refine cD.mono ?_
 rintro e w4 ⟨r4,rfl,hi4,hb4⟩
 have hq4:r4.toArray.toList.length=39:=hi4.len
 obtain⟨N4,hN⟩:∃ N4,N4=r4.toArray:=⟨_,rfl⟩
 rw[← hN] at hq4 ⊢
 have hq5:N4.size=39:=by rw[Array.length_toList] at hq4;exact hq4
 have h1c:N4.all (·.oneCell')=true:=by rw[hN];exact msOne hi4
 have HN:=lh hN
 have HN4:=lh hq4
 have HS4:=lh hq5
 have HC4:=lh h1c
 have HI4:=lh hi4
 have HB34:=lh hb4
 have HB4:=lh (HB3.out.trans (hb4.mono HB3.out.size))
 clear hi4 hq4 hq5 h1c hN hb4 cD
 go_upto_region 5 with (first | (refine wpList_store_rowK (P:=Tryz.prog) rfl 42 _ _ rfl w4.heap.size N4 rfl rfl _ _ (heap_alloc_new w4 _) (by rw[HS4.out];rfl) (by rw[HS4.out];rfl) HC4.out ?_;intro w5 hk5 hp5) | fail)
 have hb5:Below w4.heap.size w4 w5:=hp5.toBelow (below_one _ _) (by simp) fun j e=>by omega
 have HB5:=lh (HB4.out.trans (hb5.mono HB4.out.size))
 have HK5:=lh hk5
 have HKM5:=lh ((HK3.out.below HB34.out HK3.out.lt).below hb5 (Nat.lt_of_lt_of_le HK3.out.lt HB34.out.size))
 have HI5:=lh ((HI3.out.below HB34.out).below hb5)
 have HX5:=lh (HI4.out.below hb5)
 have HT5:=lh ((HT3.out.below HB34.out).below hb5)
 obtain⟨g5,hg5⟩:∃ g5,g5=w4.heap.size:=⟨_,rfl⟩
 rw[← hg5] at HK5 ⊢
 have cS:Calls Tryz.prog 14 #[.agg N4,.agg M] w5 (YesP w5 true):=by
  have:=Same_any HX5.out HI5.out
  rw[decide_eq_true rfl,← HN.out,← HM.out] at this
  exact this
 have h0l:(0:Int) < (l.length:Int):=by omega
 clear hk5 hp5 hb5 hg5
 go_wp2_with (first | (refine wpList_load_g rfl _ _ rfl g5 0 rfl N4.toList _ HK5.out.rng rfl rfl (by rw[HN4.out];rfl) ?_;simp only[Array.toArray_toList]) | (refine wpList_load_g rfl _ _ rfl g2 0 rfl M.toList _ HKM5.out.rng rfl rfl (by rw[HSZ.out];rfl) ?_;simp only[Array.toArray_toList]) | fail)
 refine cS.mono ?_
 rintro e w6 ⟨rfl,hb6⟩
 have HB6:=lh (HB5.out.trans (hb6.mono HB5.out.size))
 have HKM6:=lh (HKM5.out.below hb6 HKM5.out.lt)
 have cF:Calls Tryz.prog 18 #[.agg M] w6 (TxP w6 ⟨#[100,101,108,105,118,101,114,32,55,32,109,49,58,51,32,104,105,116,40,110,105,108,44,32,53,44,32,111,117,116,32,50,47,57,32,109,49,58,52,41]⟩):=by
  have:=Format_any (HI5.out.below hb6) x0_p x0_len.1 (HT5.out.below hb6)
  rw[x0_t,← HM.out] at this
  exact this
 clear cS hb6
 go_wp2_with (first | (refine wpList_load_g rfl _ _ rfl g2 0 rfl M.toList _ HKM6.out.rng rfl rfl (by rw[HSZ.out];rfl) ?_;simp only[Array.toArray_toList]) | fail)
 refine cF.mono ?_
 rintro e w7 ⟨rfl,hb7⟩
 have HB7:=lh (HB6.out.trans (hb7.mono HB6.out.size))
 clear cF hb7
 go_wp2_with fail
 go_ret
 exact⟨rfl,HB7.out⟩
end
section
open Go.RowKit Go.Sort
attribute [local go_sem] Oper.semAt_some
theorem dms_cases (l:List Int) (h8:B8 l):(dms l=(Ms.zero,11)) ∨ ∃ y,dms l=(y,0)∧msV y=true∧msP y∧l=encMs y:=by
 unfold dms
 by_cases h:(decMs ⟨l,0⟩).2.e=0∧(decMs ⟨l,0⟩).2.b=[]∧msV (decMs ⟨l,0⟩).1=true
 ·rw[if_pos h]
  have hb:=codMs.bw ⟨l,0⟩ h8 h.1
  rw[h.2.1,List.append_nil] at hb
  exact .inr ⟨_,rfl,h.2.2,hb.2.2,hb.2.1⟩
 ·rw[if_neg h];exact .inl rfl
theorem encMs_le {x:Ms} (h:msP x):(encMs x).length≤2147483648:=Nat.le_trans (encMs_len h) (by decide)
section
variable {w:World} {l:List Int} {A:Option Addr} {c:Nat}
end
end
section
open Go.RowKit Go.Sort
attribute [local go_sem] Oper.semAt_some
def ltT (x:Lt):Prop:=I64 x.idm∧I64 x.ids∧∀ y∈x.args,rfP y
def waT (x:Wa):Prop:=I64 x.idm∧I64 x.ids∧I64 x.key∧rfP x.tgt
def pcT (x:Pc):Prop:=P64 x.number∧I64 x.idm∧I64 x.ids∧I64 x.kind∧I64 x.cls∧(∀ y∈x.fields,rfP y)∧(∀ y∈x.mail,ltT y)∧∀ y∈x.watches,waT y
def anT (x:An):Prop:=I64 x.machine∧I64 x.owner∧I64 x.epoch∧I64 x.last∧P64 x.number∧∀ y∈x.inset,inP y
def clT (x:Cl):Prop:=I64 x.machine∧I64 x.epoch∧(∀ y∈x.stubs,ndP y)∧(∀ y∈x.scions,ndP y)∧∀ y∈x.checks,ndP y
def msT (x:Ms):Prop:=I64 x.kind∧I64 x.asker∧I64 x.tm∧I64 x.ts∧P64 x.number∧rfP x.ref∧ltT x.letter∧pcT x.parcel∧anT x.answer∧clT x.claim
theorem few_p {x:Ms} (h:msT x) (hf:fewV x=true):msP x:=by
 unfold fewV at hf
 simp only[Bool.and_eq_true,decide_eq_true_eq,List.all_eq_true] at hf
 obtain⟨⟨⟨⟨⟨⟨⟨⟨⟨f1,f2⟩,f3⟩,f4⟩,f5⟩,f6⟩,f7⟩,f8⟩,f9⟩,fa⟩:=hf
 obtain⟨h1,h2,h3,h4,h5,h6,h7,h8,h9,h10⟩:=h
 have s:∀ {b:ByteArray},b.size≤100→sP b:=fun h=>by unfold sP;omega
 have l:∀ {α:Type} {P:α→Prop} {k:List α},k.length≤1024→(∀ y∈k,P y)→lP P k:=fun h1 h2=>⟨by omega,h2⟩
 have hl:∀ y:Lt,ltT y→fewLt y=true→ltP y:=fun y hy hf=>by
  unfold fewLt at hf
  simp only[Bool.and_eq_true,decide_eq_true_eq] at hf
  exact⟨hy.1,hy.2.1,s hf.2,l (by omega) hy.2.2⟩
 have hw:∀ y:Wa,waT y→fewWa y=true→waP y:=fun y hy hf=>by
  unfold fewWa at hf
  simp only[decide_eq_true_eq] at hf
  exact⟨hy.1,hy.2.1,s hf,hy.2.2.1,hy.2.2.2⟩
 exact⟨h1,h2,h3,h4,h5,s f1,h6,⟨h7.1,h7.2.1,s f2,l (by omega) h7.2.2⟩,
  ⟨h8.1,h8.2.1,h8.2.2.1,h8.2.2.2.1,h8.2.2.2.2.1,l (by omega) h8.2.2.2.2.2.1,l (by omega) fun y hy=>hl y (h8.2.2.2.2.2.2.1 y hy) (f9 y hy),l (by omega) fun y hy=>hw y (h8.2.2.2.2.2.2.2 y hy) (fa y hy)⟩,
  ⟨h9.1,h9.2.1,h9.2.2.1,h9.2.2.2.1,h9.2.2.2.2.1,l (by omega) h9.2.2.2.2.2⟩,⟨h10.1,h10.2.1,l (by omega) h10.2.2.1,l (by omega) h10.2.2.2.1,l (by omega) h10.2.2.2.2⟩⟩
end
section
open Go.RowKit Go.Sort
attribute [local go_sem] Oper.semAt_some
theorem own_bkX {w:World} {base size n c:Nat} {e:TypeId} {A:Option Addr} {xs:List Value} (h:w.ownsRow base e size (.slice A n c) n xs) (hn:0 < n):∃ b cur,A=some ⟨b,0,none⟩∧base≤b∧Bk w b e cur:=by
 obtain⟨_,⟨_,h0⟩ | ⟨b5,cap5,cur5,hv5,hge5,hbk5,_⟩⟩:=h
 ·omega
 ·injection hv5 with hA5 _ _
  exact⟨b5,cur5,hA5,hge5,hbk5⟩
theorem xor8 {a b:Nat} (ha:a < 256) (hb:b < 256) (h0:b≠0):0≤bits .xor .u8 (a:Int) (b:Int)∧bits .xor .u8 (a:Int) (b:Int)≤255∧bits .xor .u8 (a:Int) (b:Int)≠(a:Int):=by
 have e:bits .xor .u8 (a:Int) (b:Int)=((a ^^^ b:Nat):Int):=by
  have hx:a ^^^ b < 2 ^ 8:=Nat.xor_lt_two_pow (by omega) (by omega)
  have h1:(BitVec.ofInt 8 (a:Int)).toNat=a:=by
   rw[BitVec.ofInt_natCast,BitVec.toNat_ofNat];exact Nat.mod_eq_of_lt (by omega)
  have h2:(BitVec.ofInt 8 (b:Int)).toNat=b:=by
   rw[BitVec.ofInt_natCast,BitVec.toNat_ofNat];exact Nat.mod_eq_of_lt (by omega)
  show IntKind.u8.wrap ((BitVec.ofInt 8 (a:Int) ^^^ BitVec.ofInt 8 (b:Int)).toNat:Int)=_
  rw[BitVec.toNat_xor,h1,h2]
  have h3:∀ n:Int,IntKind.u8.wrap n=n % 256:=fun n=>by simp[IntKind.wrap,IntKind.bits,IntKind.signed]
  rw[h3]
  omega
 have hx:a ^^^ b < 2 ^ 8:=Nat.xor_lt_two_pow (by omega) (by omega)
 rw[e]
 refine⟨by omega,by omega,fun h=>h0 ?_⟩
 have h':a ^^^ b=a:=by omega
 have h2:a ^^^ (a ^^^ b)=a ^^^ a:=by rw[h']
 rw[← Nat.xor_assoc,Nat.xor_self,Nat.zero_xor] at h2
 exact h2
theorem sl_take {w:World} {A:Option Addr} {l:List Int} {q:Nat} (h:Sl w 1 A l.length (byts l)) (hq:q≤l.length):Sl w 1 A q (byts (l.take q)):=by
 refine⟨by simp[byts,List.length_take];omega,?_⟩
 rcases h.2 with h0 | ⟨b,o,h1,h2,h3⟩
 ·exact .inl (by omega)
 ·refine .inr ⟨b,o,h1,h2,fun j v hv=>h3 j v ?_⟩
  unfold byts at hv ⊢
  rw[List.map_take] at hv
  have hj:j < q:=by
   have:=(List.getElem?_eq_some_iff.1 hv).1
   rw[List.length_take] at this
   omega
  rw[List.getElem?_take_of_lt hj] at hv
  exact hv
section
variable {w:World} {x:Ms} {r1:List Value} {at_ xb:Int} {cut:Bool}
set_option maxHeartbeats 16000000 in
theorem LDmg_any (h1:MsI w x r1) (t1:msT x) (ha:I64 at_) (hxb:0≤xb∧xb≤255) (ht:Tb w):Calls Tryz.prog 5 #[.agg r1.toArray,.int .i64 at_,.int .u8 xb,.bool cut] w (YesP w true):=by
 have hs1:r1.toArray.toList.length=39:=h1.len
 obtain⟨M,hM⟩:∃ M,M=r1.toArray:=⟨_,rfl⟩
 rw[← hM] at hs1
 rw[← hM]
 have HM:=lh hM
 have HS1:=lh hs1
 obtain⟨W,hW⟩:∃ W,W=w.alloc (.cells M 42):=⟨_,rfl⟩
 obtain⟨g,hg⟩:∃ g,g=w.heap.size:=⟨_,rfl⟩
 have hb0:Below w.heap.size w W:=by rw[hW];exact below_one _ _
 have HK0:Hid (Bk W g 42 M):=lh (by rw[hW,hg];exact Bk.new _ _ _)
 have HB0:=lh hb0
 have HI0:=lh (h1.below hb0)
 have HT:=lh (ht.below hb0)
 have HTT:=lh t1
 have HA:=lh (And.intro ha hxb)
 clear hb0 h1 t1 ht hM hs1 ha hxb
 go_enter Tryz.func5,Tryz.ntmps5
 go_upto_region 1 with fail
 rw[← hW,← hg]
 clear hW hg
 go_wp2_with fail
 refine(awake27 _ HT.out).mono ?_
 rintro e w1 ⟨rfl,hb1⟩
 have HB1:=lh (HB0.out.trans (hb1.mono HB0.out.size))
 have HK1:=lh (HK0.out.below hb1 HK0.out.lt)
 have HI1:=lh (HI0.out.below hb1)
 clear hb1
 have cF:Calls Tryz.prog 11 #[.agg M] w1 (YesP w1 (fewV x)):=by rw[HM.out];exact Few_any HI1.out
 go_upto_region 3 with fail
 refine wp_region_list ?_
 refine wpList_load_mid rfl _ _ rfl g 0 rfl M.toList _ HK1.out.rng rfl rfl (by rw[HS1.out];rfl) ?_
 simp only[Array.toArray_toList]
 cases hf:fewV x with
 | false =>
  rw[hf] at cF
  clear hf
  go_wp2_with fail
  refine cF.mono ?_
  rintro e w2 ⟨rfl,hb2⟩
  have HB2:=lh (HB1.out.trans (hb2.mono HB1.out.size))
  clear cF hb2
  go_wp2_with fail
  go_ret
  exact⟨rfl,HB2.out⟩
 | true =>
  rw[hf] at cF
  have HPX:=lh (few_p HTT.out hf)
  clear hf
  go_wp2_with fail
  refine cF.mono ?_
  rintro e w2 ⟨rfl,hb2⟩
  clear cF
  have HB2:=lh (HB1.out.trans (hb2.mono HB1.out.size))
  have HK2:=lh (HK1.out.below hb2 HK1.out.lt)
  have HI2:=lh (HI1.out.below hb2)
  clear hb2
  have cV:Calls Tryz.prog 12 #[.agg M] w2 (YesP w2 (msV x)):=by rw[HM.out];exact Valid_any HI2.out HPX.out (encMs_le HPX.out)
  cases hv:msV x with
  | false =>
   rw[hv] at cV
   clear hv
   go_wp2_with (first | (refine wpList_load_g rfl _ _ rfl g 0 rfl M.toList _ HK2.out.rng rfl rfl (by rw[HS1.out];rfl) ?_;simp only[Array.toArray_toList]) | fail)
   refine cV.mono ?_
   rintro e w3 ⟨rfl,hb3⟩
   have HB3:=lh (HB2.out.trans (hb3.mono HB2.out.size))
   clear cV hb3
   go_wp2_with fail
   go_ret
   exact⟨rfl,HB3.out⟩
  | true =>
   rw[hv] at cV
   have HVX:=lh hv
   clear hv
   go_wp2_with (first | (refine wpList_load_g rfl _ _ rfl g 0 rfl M.toList _ HK2.out.rng rfl rfl (by rw[HS1.out];rfl) ?_;simp only[Array.toArray_toList]) | fail)
   refine cV.mono ?_
   rintro e w3 ⟨rfl,hb3⟩
   clear cV
   have HB3:=lh (HB2.out.trans (hb3.mono HB2.out.size))
   have HK3:=lh (HK2.out.below hb3 HK2.out.lt)
   have HI3:=lh (HI2.out.below hb3)
   clear hb3
   by_cases hneg:at_ < 0
   ·have d0:decide (at_ < 0)=true:=decide_eq_true hneg
    clear hneg
    go_wp2_with fail
    go_ret
    exact⟨rfl,HB3.out⟩
   obtain⟨k,rfl⟩:∃ k:Nat,at_=k:=⟨at_.toNat,by omega⟩
   have d0:decide ((k:Int) < 0)=false:=decide_eq_false hneg
   clear hneg
   obtain⟨la,hla⟩:∃ la,la=encMs x:=⟨_,rfl⟩
   have HLA:Hid (la.length≤80000000∧B8 la∧0 < la.length):=lh (by rw[hla];refine⟨encMs_len HPX.out,encMs_b8 HPX.out,?_⟩;have:=encI_one x.kind;unfold encMs;simp only[List.length_append];omega)
   have HEQ:=lh hla
   have cE:Calls Tryz.prog 13 #[.agg M] w3 fun e w'=>∃ v,e=.returned (.tuple #[v,.int .i64 0])∧w'.ownsRow w3.heap.size 5 1 v la.length (byts la)∧Below w3.heap.size w3 w':=by
    have:=Encode_any HI3.out HPX.out (encMs_le HPX.out)
    rw[HVX.out,if_pos rfl,if_pos rfl,← hla,← HM.out] at this
    exact this
   clear hla
   go_upto_region 5 with fail
   refine wp_region_list ?_
   refine wpList_load_mid rfl _ _ rfl g 0 rfl M.toList _ HK3.out.rng rfl rfl (by rw[HS1.out];rfl) ?_
   simp only[Array.toArray_toList]
   go_upto_region 6 with (go_at_call 13;refine cE.mono ?_;rintro e w4 ⟨v4,rfl,ho4,hb4⟩)
   obtain⟨ga,ca,rfl,hca,_,hgal,hsl⟩:=ownSls ho4 HLA.out.2.2
   have HS4:=lh hsl
   have hl0:¬ (la.length:Int)=0:=by have:=HLA.out;omega
   have hl1:((la.length:Int) == 0)=false:=by simpa using hl0
   clear cE ho4 hl0 hsl
   have HB4:=lh (HB3.out.trans (hb4.mono HB3.out.size))
   have HK4:=lh (HK3.out.below hb4 HK3.out.lt)
   have HI4:=lh (HI3.out.below hb4)
   clear hb4
   obtain⟨i5,h5,z5,s5,b5⟩:=info_parts i_u8
   have HIF:=lh (And.intro h5 (And.intro z5 (And.intro s5 b5)))
   have hz4:=HB4.out.size
   have hlm:=HLA.out.1
   have HOE:Hid ((w4.alloc (.cells #[] 5)).ownsRow w4.heap.size 5 1 (.slice (some ⟨w4.heap.size,0,none⟩) 0 0) 0 []):=lh (ownEmpty 1 (Bk.new _ _ _) (Nat.le_refl _))
   have HCL:Hid (∀ j u,(byts la)[j]?=some u→(w4.alloc (.cells #[] 5)).cell? ((⟨ga,0,none⟩:Addr).add j)=some u):=lh (by
    obtain⟨b',o',e4,h5,h6⟩:=HS4.out.get HLA.out.2.2
    injection e4 with e4
    injection e4 with e5 e6
    subst e5 e6
    exact cellsAdd fun j v hv=>cellAlloc _ (h6 j v hv))
   clear h5 z5 s5 b5
   go_upto_region 10 with (first | (at_builtin;refine wpList_append_own _ rfl (.tmp 40) (.tmp 41) 45 rfl w4.heap.size 5 i5 (.int .u8 0) 1 1 Tryz.underlying45 HIF.out.1 HIF.out.2.1 HIF.out.2.2.1 HIF.out.2.2.2 rfl (by decide) _ _ _ rfl HOE.out ⟨ga,0,none⟩ la.length ca (byts la) rfl (by rw[byts_len];omega) HCL.out (byts_one la) (by unfold maxLen;omega) (by omega) (by simp) ?_;intro v5 w5 hown5 hg5 _))
   obtain⟨A5,c5,rfl,_⟩:=own_shape hown5
   rw[Nat.zero_add,List.nil_append] at hown5
   simp only[Nat.zero_add]
   have hb5:Below w4.heap.size w4 w5:=((Below.refl _ _).alloc (Nat.le_refl _) _).grown hg5 (by simp) fun q hq=>(HOE.out.lt q hq).1
   have HB45:=lh hb5
   have HO5:=lh hown5
   have HLE5:=lh (own_le hown5)
   have h5c:=own_le hown5
   clear hown5 hg5 HOE HCL
   have HB5:=lh (HB4.out.trans (hb5.mono HB4.out.size))
   have HK5:=lh (HK4.out.below hb5 HK4.out.lt)
   have HI5:=lh (HI4.out.below hb5)
   clear hb5
   cases cut with
   | true =>
    obtain⟨q,hq⟩:∃ q,q=k % la.length:=⟨_,rfl⟩
    have hql:q < la.length:=by rw[hq];exact Nat.mod_lt _ HLA.out.2.2
    have hqc:q≤c5:=by omega
    have hm1:(k:Int) % (la.length:Int)=(q:Int):=by rw[hq];omega
    have hm2:(k:Int).tmod (la.length:Int)=(q:Int):=by rw[Int.tmod_eq_emod_of_nonneg (by omega)];exact hm1
    have hlp:(la.length:Int)≠0:=by have:=HLA.out;omega
    have HSQ:Hid (Sl w5 1 A5 (la.take q).length (byts (la.take q))∧(la.take q).length=q):=lh ⟨by rw[List.length_take,Nat.min_eq_left (by omega)];exact sl_take (own_sl HO5.out) (by omega),by rw[List.length_take];omega⟩
    have HQL:=lh hql
    clear hq
    have cD:=Decode_any (c:=c5) HSQ.out.1 (by rw[HSQ.out.2];omega) (HLA.out.2.1.take q) (by rw[HSQ.out.2];have:=HLA.out.1;omega)
    obtain⟨⟨y,er⟩,hT⟩:∃ T,T=dms (la.take q):=⟨_,rfl⟩
    rw[← hT] at cD
    rw[HSQ.out.2] at cD
    have hcs:=dms_cases _ (HLA.out.2.1.take q)
    rw[← hT] at hcs
    have HCS:=lh hcs
    clear hT hcs
    go_upto_region 16 with fail
    refine wp_region_list ?_
    go_wp2_with fail
    refine cD.mono ?_
    rintro e w6 ⟨rN,rfl,hiN,hb6⟩
    dsimp only at hiN
    have hqN:rN.toArray.toList.length=39:=hiN.len
    obtain⟨N,hnN⟩:∃ N,N=rN.toArray:=⟨_,rfl⟩
    rw[← hnN] at hqN ⊢
    have hpN:N.size=39:=by rw[Array.length_toList] at hqN;exact hqN
    have h1N:N.all (·.oneCell')=true:=by rw[hnN];exact msOne hiN
    have HNN:=lh hnN
    have HQN:=lh hqN
    have HPN:=lh hpN
    have HCN:=lh h1N
    have HIN:=lh hiN
    clear hiN hqN hpN h1N hnN cD
    have HB6:=lh (HB5.out.trans (hb6.mono HB5.out.size))
    have HK6:=lh (HK5.out.below hb6 HK5.out.lt)
    have HI6:=lh (HI5.out.below hb6)
    clear hb6
    go_upto_region 17 with (first | (refine wpList_store_rowK (P:=Tryz.prog) rfl 42 _ _ rfl w6.heap.size N rfl rfl _ _ (heap_alloc_new w6 _) (by rw[HPN.out];rfl) (by rw[HPN.out];rfl) HCN.out ?_;intro w7 hk7 hp7) | fail)
    have hb7:Below w6.heap.size w6 w7:=hp7.toBelow (below_one _ _) (by simp) fun j e=>by omega
    obtain⟨gN,hgN⟩:∃ gN,gN=w6.heap.size:=⟨_,rfl⟩
    rw[← hgN] at hk7 ⊢
    have HGN:=lh hk7
    have HXN:=lh (HIN.out.below hb7)
    clear hk7 hp7 hgN
    have HB7:=lh (HB6.out.trans (hb7.mono HB6.out.size))
    have HK7:=lh (HK6.out.below hb7 HK6.out.lt)
    have HI7:=lh (HI6.out.below hb7)
    clear hb7
    rcases HCS.out with hd | ⟨y',hd,hv,hp,hl⟩
    ·obtain⟨rfl,rfl⟩:=Prod.mk.inj hd
     clear hd
     go_wp2_with fail
     go_ret
     exact⟨rfl,HB7.out⟩
    ·obtain⟨rfl,rfl⟩:=Prod.mk.inj hd
     have hxy:decide (x=y)=false:=decide_eq_false fun e=>(fun(e:la.take q=la)=>by have h1:=congrArg List.length e;rw[HSQ.out.2] at h1;have:=HQL.out;omega) (by rw[hl,← e];exact HEQ.out.symm)
     have cS:Calls Tryz.prog 14 #[.agg M,.agg N] w7 (YesP w7 false):=by
      have:=Same_any HI7.out HXN.out
      rw[hxy,← HNN.out,← HM.out] at this
      exact this
     clear hd hv hp hl hxy
     go_wp2_with (first | (refine wpList_load_g rfl _ _ rfl g 0 rfl M.toList _ HK7.out.rng rfl rfl (by rw[HS1.out];rfl) ?_;simp only[Array.toArray_toList]) | (refine wpList_load_g rfl _ _ rfl gN 0 rfl N.toList _ HGN.out.rng rfl rfl (by rw[HQN.out];rfl) ?_;simp only[Array.toArray_toList]) | fail)
     refine cS.mono ?_
     rintro e w8 ⟨rfl,hb8⟩
     have HB8:=lh (HB7.out.trans (hb8.mono HB7.out.size))
     clear cS hb8
     go_wp2_with fail
     go_ret
     exact⟨rfl,HB8.out⟩
   | false =>
    by_cases hge:la.length≤k
    ·have d1:decide ((la.length:Int)≤(k:Int))=true:=decide_eq_true (by omega)
     have d2:(la.length:Int)≤(k:Int):=by omega
     have hb8x:B8 (la++[xb]):=HLA.out.2.1.app (B8.one HA.out.2.1 HA.out.2.2)
     have HB8:=lh hb8x
     have hz5:=HB5.out.size
     clear hge hb8x
     go_upto_region 16 with (first | (at_builtin;(refine wpList_append_own _ rfl (.tmp 65) (.tmp 67) 45 rfl w4.heap.size 5 i5 (.int .u8 0) 1 1 Tryz.underlying45 HIF.out.1 HIF.out.2.1 HIF.out.2.2.1 HIF.out.2.2.2 rfl (by decide) _ _ _ rfl (HO5.out.alloc _) ⟨w5.heap.size,0,none⟩ 1 1 [.int .u8 xb] rfl rfl (cell_one _ _ _) (by simp[Value.oneCell']) (by unfold maxLen;omega) (by omega) (by simp;have:=HB45.out.size;omega) ?_);intro v6 w6 hown6 hg6 _))
     obtain⟨A6,c6,rfl,_⟩:=own_shape hown6
     have hb6:Below w4.heap.size w4 w6:=(HB45.out.alloc HB45.out.size _).grown hg6 (by simp;have:=HB45.out.size;omega) fun q hq=>(HO5.out.lt q hq).1
     have hbe:byts la++[.int .u8 xb]=byts (la++[xb]):=by simp[byts]
     rw[hbe] at hown6
     have HSX:Hid (Sl w6 1 A6 (la++[xb]).length (byts (la++[xb]))):=lh (by rw[List.length_append];exact own_sl hown6)
     have HLX:=lh (own_le hown6)
     clear hown6 hg6 hbe
     have HB6:=lh (HB4.out.trans (hb6.mono HB4.out.size))
     have HK6:=lh (HK4.out.below hb6 HK4.out.lt)
     have HI6:=lh (HI4.out.below hb6)
     clear hb6
     have cD:=Decode_any (c:=c6) HSX.out (by rw[List.length_append];exact HLX.out) HB8.out (by rw[List.length_append];have:=HLA.out.1;simp;omega)
     obtain⟨⟨y,er⟩,hT⟩:∃ T,T=dms (la++[xb]):=⟨_,rfl⟩
     rw[← hT] at cD
     rw[show(la++[xb]).length=la.length+1 by simp] at cD
     have hcs:=dms_cases _ HB8.out
     rw[← hT] at hcs
     have HCS:=lh hcs
     clear hT hcs
     go_upto_region 16 with fail
     refine wp_region_list ?_
     go_wp2_with fail
     refine cD.mono ?_
     rintro e w7 ⟨rN,rfl,hiN,hb7⟩
     dsimp only at hiN
     have hqN:rN.toArray.toList.length=39:=hiN.len
     obtain⟨N,hnN⟩:∃ N,N=rN.toArray:=⟨_,rfl⟩
     rw[← hnN] at hqN ⊢
     have hpN:N.size=39:=by rw[Array.length_toList] at hqN;exact hqN
     have h1N:N.all (·.oneCell')=true:=by rw[hnN];exact msOne hiN
     have HNN:=lh hnN
     have HQN:=lh hqN
     have HPN:=lh hpN
     have HCN:=lh h1N
     have HIN:=lh hiN
     clear hiN hqN hpN h1N hnN cD
     have HB7:=lh (HB6.out.trans (hb7.mono HB6.out.size))
     have HK7:=lh (HK6.out.below hb7 HK6.out.lt)
     have HI7:=lh (HI6.out.below hb7)
     clear hb7
     go_upto_region 17 with (first | (refine wpList_store_rowK (P:=Tryz.prog) rfl 42 _ _ rfl w7.heap.size N rfl rfl _ _ (heap_alloc_new w7 _) (by rw[HPN.out];rfl) (by rw[HPN.out];rfl) HCN.out ?_;intro w8 hk8 hp8) | fail)
     have hb8:Below w7.heap.size w7 w8:=hp8.toBelow (below_one _ _) (by simp) fun j e=>by omega
     obtain⟨gN,hgN⟩:∃ gN,gN=w7.heap.size:=⟨_,rfl⟩
     rw[← hgN] at hk8 ⊢
     have HGN:=lh hk8
     have HXN:=lh (HIN.out.below hb8)
     clear hk8 hp8 hgN
     have HB8:=lh (HB7.out.trans (hb8.mono HB7.out.size))
     have HK8:=lh (HK7.out.below hb8 HK7.out.lt)
     have HI8:=lh (HI7.out.below hb8)
     clear hb8
     rcases HCS.out with hd | ⟨y',hd,hv,hp,hl⟩
     ·obtain⟨rfl,rfl⟩:=Prod.mk.inj hd
      clear hd
      go_wp2_with fail
      go_ret
      exact⟨rfl,HB8.out⟩
     ·obtain⟨rfl,rfl⟩:=Prod.mk.inj hd
      have hxy:decide (x=y)=false:=decide_eq_false fun e=>(fun(e:la++[xb]=la)=>by have h1:=congrArg List.length e;rw[List.length_append] at h1;simp at h1) (by rw[hl,← e];exact HEQ.out.symm)
      have cS:Calls Tryz.prog 14 #[.agg M,.agg N] w8 (YesP w8 false):=by
       have:=Same_any HI8.out HXN.out
       rw[hxy,← HNN.out,← HM.out] at this
       exact this
      clear hd hv hp hl hxy
      go_wp2_with (first | (refine wpList_load_g rfl _ _ rfl g 0 rfl M.toList _ HK8.out.rng rfl rfl (by rw[HS1.out];rfl) ?_;simp only[Array.toArray_toList]) | (refine wpList_load_g rfl _ _ rfl gN 0 rfl N.toList _ HGN.out.rng rfl rfl (by rw[HQN.out];rfl) ?_;simp only[Array.toArray_toList]) | fail)
      refine cS.mono ?_
      rintro e w9 ⟨rfl,hb9⟩
      have HB9:=lh (HB8.out.trans (hb9.mono HB8.out.size))
      clear cS hb9
      go_wp2_with fail
      go_ret
      exact⟨rfl,HB9.out⟩
    ·have hkl:k < la.length:=by omega
     have d1:decide ((la.length:Int)≤(k:Int))=false:=decide_eq_false (by omega)
     by_cases hx0:xb=0
     ·subst hx0
      clear hge
      go_wp2_with fail
      go_ret
      exact⟨rfl,HB5.out⟩
     ·have q0:(xb == 0)=false:=by simpa using hx0
      obtain⟨b5,cur5,rfl,hge5,hblk⟩:=own_bkX HO5.out HLA.out.2.2
      have hy:la[k]?=some (la[k]'hkl):=List.getElem?_eq_getElem hkl
      obtain⟨yk,hyk⟩:∃ yk,yk=la[k]'hkl:=⟨_,rfl⟩
      rw[← hyk] at hy
      have hy8:0≤yk∧yk≤255:=by rw[hyk];exact HLA.out.2.1 _ (List.getElem_mem hkl)
      have hcl5:∀ j v,(byts la)[j]?=some v→w5.cell? ⟨b5,j,none⟩=some v:=fun j v hv=>by
       have:=World.ownsRow.cells HO5.out rfl j v hv
       rw[Addr.add_mid,Nat.zero_add] at this
       exact this
      have e0:w5.cell? ⟨b5,k,none⟩=some (.int .u8 yk):=hcl5 k _ (by unfold byts;rw[List.getElem?_map,hy];rfl)
      have f0:w5.frozen? ⟨b5,k,none⟩=false:=hblk.free k
      have hkc:k < c5:=by omega
      obtain⟨v,hv⟩:∃ v,v=bits .xor .u8 yk xb:=⟨_,rfl⟩
      have hvv:0≤v∧v≤255∧v≠yk:=by
       obtain⟨a,ha⟩:∃ a:Nat,yk=a:=⟨yk.toNat,by omega⟩
       obtain⟨b,hb⟩:∃ b:Nat,xb=b:=⟨xb.toNat,by have:=HA.out.2.1;omega⟩
       rw[hv,ha,hb]
       exact xor8 (by omega) (by have:=HA.out.2.2;omega) (by omega)
      have hb6:Below w4.heap.size w4 (w5.setCell ⟨b5,k,none⟩ (.int .u8 v)):=HB45.out.setCell hge5 _
      have hsl6:Sl (w5.setCell ⟨b5,k,none⟩ (.int .u8 v)) 1 (some ⟨b5,0,none⟩) la.length (byts (la.set k v)):=by
       refine⟨by simp[byts],.inr ⟨b5,0,rfl,by simp[World.setCell];exact hblk.lt,fun j u hu=>?_⟩⟩
       rw[Nat.zero_add]
       unfold byts at hu
       rw[List.getElem?_map] at hu
       by_cases hj:k=j
       ·subst hj
        rw[List.getElem?_set_self hkl] at hu
        cases hu
        exact World.cell?_setCell_same _ _ _ e0
       ·rw[List.getElem?_set_ne hj] at hu
        rw[World.cell?_setCell_other _ _ _ _ (by simp[hj])]
        exact hcl5 j u (by unfold byts;rw[List.getElem?_map];exact hu)
      obtain⟨w6,hw6⟩:∃ w6,w6=w5.setCell ⟨b5,k,none⟩ (.int .u8 v):=⟨_,rfl⟩
      rw[← hw6] at hb6 hsl6
      have HSX:=lh hsl6
      have HB8:Hid (B8 (la.set k v)):=lh fun z hz=>by
       rcases List.mem_or_eq_of_mem_set hz with h | h
       ·exact HLA.out.2.1 z h
       ·rw[h];exact⟨hvv.1,hvv.2.1⟩
      have HNE:Hid (la.set k v≠la):=lh fun e=>hvv.2.2 (by
       have h1:=List.getElem?_set_self (a:=v) hkl
       rw[e,hy] at h1
       injection h1 with h1
       exact h1.symm)
      have HW6:=lh hw6
      have HVB:=lh hv
      clear hge hx0 hyk hw6 hcl5 hblk hv hvv hy hy8 hsl6
      go_upto_region 16 with fail
      rw[← HVB.out,← HW6.out]
      clear e0 f0
      have HB6:=lh (HB4.out.trans (hb6.mono HB4.out.size))
      have HK6:=lh (HK4.out.below hb6 HK4.out.lt)
      have HI6:=lh (HI4.out.below hb6)
      clear hb6
      have cD:=Decode_any (c:=c5) (by rw[List.length_set];exact HSX.out) (by rw[List.length_set];exact h5c) HB8.out (by rw[List.length_set];have:=HLA.out.1;omega)
      obtain⟨⟨y,er⟩,hT⟩:∃ T,T=dms (la.set k v):=⟨_,rfl⟩
      rw[← hT] at cD
      rw[List.length_set] at cD
      have hcs:=dms_cases _ HB8.out
      rw[← hT] at hcs
      have HCS:=lh hcs
      clear hT hcs
      go_upto_region 16 with fail
      refine wp_region_list ?_
      go_wp2_with fail
      refine cD.mono ?_
      rintro e w7 ⟨rN,rfl,hiN,hb7⟩
      dsimp only at hiN
      have hqN:rN.toArray.toList.length=39:=hiN.len
      obtain⟨N,hnN⟩:∃ N,N=rN.toArray:=⟨_,rfl⟩
      rw[← hnN] at hqN ⊢
      have hpN:N.size=39:=by rw[Array.length_toList] at hqN;exact hqN
      have h1N:N.all (·.oneCell')=true:=by rw[hnN];exact msOne hiN
      have HNN:=lh hnN
      have HQN:=lh hqN
      have HPN:=lh hpN
      have HCN:=lh h1N
      have HIN:=lh hiN
      clear hiN hqN hpN h1N hnN cD
      have HB7:=lh (HB6.out.trans (hb7.mono HB6.out.size))
      have HK7:=lh (HK6.out.below hb7 HK6.out.lt)
      have HI7:=lh (HI6.out.below hb7)
      clear hb7
      go_upto_region 17 with (first | (refine wpList_store_rowK (P:=Tryz.prog) rfl 42 _ _ rfl w7.heap.size N rfl rfl _ _ (heap_alloc_new w7 _) (by rw[HPN.out];rfl) (by rw[HPN.out];rfl) HCN.out ?_;intro w8 hk8 hp8) | fail)
      have hb8:Below w7.heap.size w7 w8:=hp8.toBelow (below_one _ _) (by simp) fun j e=>by omega
      obtain⟨gN,hgN⟩:∃ gN,gN=w7.heap.size:=⟨_,rfl⟩
      rw[← hgN] at hk8 ⊢
      have HGN:=lh hk8
      have HXN:=lh (HIN.out.below hb8)
      clear hk8 hp8 hgN
      have HB8:=lh (HB7.out.trans (hb8.mono HB7.out.size))
      have HK8:=lh (HK7.out.below hb8 HK7.out.lt)
      have HI8:=lh (HI7.out.below hb8)
      clear hb8
      rcases HCS.out with hd | ⟨y',hd,hv,hp,hl⟩
      ·obtain⟨rfl,rfl⟩:=Prod.mk.inj hd
       clear hd
       go_wp2_with fail
       go_ret
       exact⟨rfl,HB8.out⟩
      ·obtain⟨rfl,rfl⟩:=Prod.mk.inj hd
       have hxy:decide (x=y)=false:=decide_eq_false fun e=>HNE.out (by rw[hl,← e];exact HEQ.out.symm)
       have cS:Calls Tryz.prog 14 #[.agg M,.agg N] w8 (YesP w8 false):=by
        have:=Same_any HI8.out HXN.out
        rw[hxy,← HNN.out,← HM.out] at this
        exact this
       clear hd hv hp hl hxy
       go_wp2_with (first | (refine wpList_load_g rfl _ _ rfl g 0 rfl M.toList _ HK8.out.rng rfl rfl (by rw[HS1.out];rfl) ?_;simp only[Array.toArray_toList]) | (refine wpList_load_g rfl _ _ rfl gN 0 rfl N.toList _ HGN.out.rng rfl rfl (by rw[HQN.out];rfl) ?_;simp only[Array.toArray_toList]) | fail)
       refine cS.mono ?_
       rintro e w9 ⟨rfl,hb9⟩
       have HB9:=lh (HB8.out.trans (hb9.mono HB8.out.size))
       clear cS hb9
       go_wp2_with fail
       go_ret
       exact⟨rfl,HB9.out⟩
end
end
end Go.Proofs.YtmbnlccafcfbeaaGreatDoor
