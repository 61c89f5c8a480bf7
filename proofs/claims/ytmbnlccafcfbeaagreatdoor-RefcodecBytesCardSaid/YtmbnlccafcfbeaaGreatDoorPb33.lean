/- Parts of the proof: LwB, OpenK. -/
import Derived.Deep.Fields
import Derived.Deep.Slices
import Derived.OpenShut
import Derived.ProofKit
import Derived.SizedLaws
import Derived.Test.YtmbnlccafcfbeaaGreatDoorChecked
import Derived.Test.YtmbnlccafcfbeaaGreatDoorPbA
import Derived.Test.YtmbnlccafcfbeaaGreatDoorPb18
import Derived.Test.YtmbnlccafcfbeaaGreatDoorPb32
set_option linter.unusedVariables false
set_option linter.unusedSimpArgs false
set_option linter.unusedSectionVars false
set_option maxRecDepth 100000
namespace Go.Proofs.YtmbnlccafcfbeaaGreatDoor
section
open Go.RowKit Go.Sort
attribute [local go_sem] Oper.semAt_some
theorem dms_cases (l:List Int) (h8:B8 l):(dms l=(Ms.zero,11)) ∨ ∃ y,dms l=(y,0)∧msV y=true∧msP y∧l=encMs y:=by
 unfold dms
 by_cases h:(decMs ⟨l,0⟩).2.e=0∧(decMs ⟨l,0⟩).2.b=[]∧msV (decMs ⟨l,0⟩).1=true
 ·rw[if_pos h]
  have hb:=codMs.bw ⟨l,0⟩ h8 h.1
  rw[h.2.1,List.append_nil] at hb
  exact .inr ⟨_,rfl,h.2.2,hb.2.2,hb.2.1⟩
 ·rw[if_neg h];exact .inl rfl
theorem wpList_build_gc {P:Program} {ops:Array Oper} {rest:List Oper} {o:Oper} {a:Act} {w:World} {Q:Exit→Act→World→Prop} (hg:Region.wanted o (yielded ops a.tmps)=true) (t:TypeId) (parts:Array (Nat × Operand)) (ho:o.op=.build t parts) (cells:Array Value)
  (hf:P.built t (parts.map fun(i,x)=>(i,a.eval x)).toList=some cells)
  (h:wpList P ops Q rest (a.put o.dst (.agg cells)) w):wpList P ops Q (o::rest) a w :=
 wpList_step fun K hK=>by
  rw[if_pos hg]
  exact wp_build t parts ho (by rw[hf];rfl) (hK _ _ (by rw[hf];exact h))
theorem encMs_le {x:Ms} (h:msP x):(encMs x).length≤2147483648:=Nat.le_trans (encMs_len h) (by decide)
theorem msZ_in (w:World):MsI w Ms.zero msZ.toList:=msZ_zero.toI zero_msP
section
variable {w:World} {l:List Int} {A:Option Addr} {c:Nat}
set_option maxHeartbeats 8000000 in
theorem LBytes_any (hs:Sl w 1 A l.length (byts l)) (hA:∀ x,A=some x→x.spot=none) (hc:l.length≤c) (h8:B8 l) (ht:Tb w):Calls Tryz.prog 4 #[.slice A l.length c] w (YesP w true):=by
 have HS:=lh (And.intro hs (And.intro hA (And.intro hc h8)))
 have HT:=lh ht
 clear hs hA hc h8 ht
 go_enter Tryz.func4,Tryz.ntmps4
 go_wp2_with fail
 refine(awake27 _ HT.out).mono ?_
 rintro e w1 ⟨rfl,hb1⟩
 have HB1:=lh hb1
 clear hb1
 by_cases h4:400 < l.length
 ·have d0:decide ((400:Int) < (l.length:Int))=true:=decide_eq_true (by omega)
  clear h4
  go_wp2_with fail
  go_ret
  exact⟨rfl,HB1.out⟩
 ·have d0:decide ((400:Int) < (l.length:Int))=false:=decide_eq_false (by omega)
  have H4:=lh h4
  have cD:=Decode_any (c:=c) (HS.out.1.below HB1.out) HS.out.2.2.1 HS.out.2.2.2 (by have:=H4.out;omega)
  clear h4
  obtain⟨⟨y,er⟩,hT⟩:∃ T,T=dms l:=⟨_,rfl⟩
  rw[← hT] at cD
  have hcs:=dms_cases l HS.out.2.2.2
  rw[← hT] at hcs
  have HCS:=lh hcs
  clear hT hcs
  go_wp2_with fail
  refine cD.mono ?_
  rintro e w2 ⟨r2,rfl,hi2,hb2⟩
  dsimp only at hi2
  have hq2:r2.toArray.toList.length=39:=hi2.len
  obtain⟨N,hN⟩:∃ N,N=r2.toArray:=⟨_,rfl⟩
  rw[← hN] at hq2 ⊢
  have hq3:N.size=39:=by rw[Array.length_toList] at hq2;exact hq2
  have h1c:N.all (·.oneCell')=true:=by rw[hN];exact msOne hi2
  have HN:=lh hN
  have HN2:=lh hq2
  have HN3:=lh hq3
  have HC:=lh h1c
  have HI2:=lh hi2
  have HB2:=lh (HB1.out.trans (hb2.mono HB1.out.size))
  clear hi2 hq2 hq3 h1c hN hb2 cD
  go_upto_region 6 with (first | (refine wpList_store_rowK (P:=Tryz.prog) rfl 42 _ _ rfl w2.heap.size N rfl rfl _ _ (heap_alloc_new w2 _) (by rw[HN3.out];rfl) (by rw[HN3.out];rfl) HC.out ?_;intro w3 hk3 hp3) | fail)
  have hb3:Below w2.heap.size w2 w3:=hp3.toBelow (below_one _ _) (by simp) fun j e=>by omega
  have HB3:=lh (HB2.out.trans (hb3.mono HB2.out.size))
  have HI3:=lh (HI2.out.below hb3)
  obtain⟨g3,hg3⟩:∃ g3,g3=w2.heap.size:=⟨_,rfl⟩
  rw[← hg3] at hk3 ⊢
  have HK3:=lh hk3
  clear hk3 hp3 hb3 hg3
  rcases HCS.out with hd | ⟨y',hd,hv,hp,hl⟩
  ·obtain⟨rfl,rfl⟩:=Prod.mk.inj hd
   have cS:Calls Tryz.prog 14 #[.agg N,.agg msZ] w3 (YesP w3 true):=by
    have:=Same_any HI3.out (msZ_in w3)
    rw[decide_eq_true rfl,← HN.out,Array.toArray_toList] at this
    exact this
   clear hd
   go_wp2_with (first | (refine wpList_load_g rfl _ _ rfl g3 0 rfl N.toList _ HK3.out.rng rfl rfl (by rw[HN2.out];rfl) ?_;simp only[Array.toArray_toList]) | (refine wpList_build_gc rfl _ _ rfl msZ (by kernel_rfl) ?_) | fail)
   refine cS.mono ?_
   rintro e w4 ⟨rfl,hb4⟩
   have HB4:=lh (HB3.out.trans (hb4.mono HB3.out.size))
   clear cS hb4
   go_wp2_with fail
   go_ret
   exact⟨rfl,HB4.out⟩
  ·obtain⟨rfl,rfl⟩:=Prod.mk.inj hd
   have HV:=lh (And.intro hv (And.intro hp hl))
   have cE:Calls Tryz.prog 13 #[.agg N] w3 fun e w'=>∃ v,e=.returned (.tuple #[v,.int .i64 0])∧w'.ownsRow w3.heap.size 5 1 v l.length (byts l)∧Below w3.heap.size w3 w':=by
    have:=Encode_any HI3.out HV.out.2.1 (encMs_le HV.out.2.1)
    rw[HV.out.1,if_pos rfl,if_pos rfl,← HV.out.2.2,← HN.out] at this
    exact this
   clear hd hv hp hl
   go_upto_region 8 with fail
   refine wp_region_list ?_
   refine wpList_load_mid rfl _ _ rfl g3 0 rfl N.toList _ HK3.out.rng rfl rfl (by rw[HN2.out];rfl) ?_
   simp only[Array.toArray_toList]
   go_wp2_with fail
   refine cE.mono ?_
   rintro e w4 ⟨v4,rfl,ho4,hb4⟩
   obtain⟨A4,c4,rfl,_⟩:=own_shape ho4
   have HB34:=lh hb4
   have HB4:=lh (HB3.out.trans (hb4.mono HB3.out.size))
   have HK4:=lh (HK3.out.below hb4 HK3.out.lt)
   have HO4:=lh (And.intro (own_sl ho4) (own_spot ho4))
   have cV:Calls Tryz.prog 12 #[.agg N] w4 (YesP w4 true):=by
    have:=Valid_any (HI3.out.below hb4) HV.out.2.1 (encMs_le HV.out.2.1)
    rw[HV.out.1,← HN.out] at this
    exact this
   clear cE ho4 hb4
   go_wp2_with (first | (refine wpList_load_g rfl _ _ rfl g3 0 rfl N.toList _ HK4.out.rng rfl rfl (by rw[HN2.out];rfl) ?_;simp only[Array.toArray_toList]) | fail)
   refine cV.mono ?_
   rintro e w5 ⟨rfl,hb5⟩
   have HB5:=lh (HB4.out.trans (hb5.mono HB4.out.size))
   have k1:=conv_all (c:=c4) (HO4.out.1.below hb5) HO4.out.2
   have k2:=conv_all (c:=c) (HS.out.1.below HB5.out) HS.out.2.1
   obtain⟨tx,htx⟩:∃ tx,tx=txt l:=⟨_,rfl⟩
   rw[← htx] at k1 k2
   clear cV hb5 htx
   go_wp2_with fail
   go_ret
   exact⟨rfl,HB5.out⟩
end
end
section
open Go.ChangeShapes Go.WideShapes Go.ChangeAt Go.RowKit Go.Deep
def SlR {α:Type} (R:World→α→List Value→Prop) (w:World) (s:Nat) (A:Option Addr) (n:Nat) (xs:List α):Prop :=
 xs.length=n∧(n=0 ∨ ∃ b o,A=some ⟨b,o,none⟩∧b < w.heap.size∧∀ i x,xs[i]?=some x→∃ r:List Value,r.length=s∧R w x r∧∀ j v,r[j]?=some v→w.cell? ⟨b,o+i*s+j,none⟩=some v)
theorem SlR.nil {α:Type} (R:World→α→List Value→Prop) (w:World) (s:Nat) (A:Option Addr):SlR R w s A 0 []:=⟨rfl,.inl rfl⟩
theorem SlR.get {α:Type} {R:World→α→List Value→Prop} {w:World} {s n:Nat} {A:Option Addr} {xs:List α} (h:SlR R w s A n xs) {k:Nat} (hk:k < n) :
  ∃ b o x r,A=some ⟨b,o,none⟩∧b < w.heap.size∧xs[k]?=some x∧r.length=s∧R w x r∧∀ j v,r[j]?=some v→w.cell? ⟨b,o+k*s+j,none⟩=some v:=by
 rcases h.2 with h0 | ⟨b,o,hA,hb,hc⟩
 ·omega
 ·obtain⟨x,hx⟩:∃ x,xs[k]?=some x:=⟨_,List.getElem?_eq_getElem (by rw[h.1];exact hk)⟩
  obtain⟨r,h1,h2,h3⟩:=hc k x hx
  exact⟨b,o,x,r,hA,hb,hx,h1,h2,h3⟩
def Wgt {H:Type} (P:Program) (t:TypeId) (d:DataW H):Prop:=∀ n∈d.weights P t,n≤reachBytes
theorem weightsAll_mem {H:Type} {P:Program} {e:TypeId} {l:List (DataW H)} {d:DataW H} (hd:d∈l) {n:Nat} (hn:n∈d.weights P e):n∈DataW.weightsAll P e l:=by
 induction l with
 | nil=>cases hd
 | cons a r ih =>
  unfold DataW.weightsAll
  rcases List.mem_cons.1 hd with rfl | h
  ·exact List.mem_append_left _ hn
  ·exact List.mem_append_right _ (ih h)
theorem wgt_of {H:Type} {P:Program} {ts:List TypeId} {ds:List (DataW H)} (h:(DataW.weightsEach P ts ds).all (·≤reachBytes)=true) {j:Nat} {t:TypeId} {d:DataW H} (ht:ts[j]?=some t) (hd:ds[j]?=some d):Wgt P t d :=
 fun n hn=>by simpa using List.all_eq_true.1 h n (DataW.weights_mem_each ht hd n hn)
section
variable {H:Type} {enc:TypeId × Value→H} {w:World} {base:Nat} {spare:Nat→Bool} {held:Bool}
theorem spot_of_cell {a:Addr} {v:Value} (h:w.cell? a=some v):a=⟨a.block,a.off,none⟩:=by
 have:=World.cell?_spot h
 cases a
 simp_all
theorem choose_list {α:Type} {p:Nat→α→Prop}:∀ n,(∀ i,i < n→∃ x,p i x)→∃ l:List α,l.length=n∧∀ i x,l[i]?=some x→p i x
 | 0,_=>⟨[],rfl,fun i x h=>by cases h⟩
 | n+1,h=>by
  obtain⟨l,h1,h2⟩:=choose_list n (fun i hi=>h i (by omega))
  obtain⟨x,hx⟩:=h n (by omega)
  refine⟨l++[x],by simp[h1],fun i y hy=>?_⟩
  by_cases hi:i < n
  ·rw[List.getElem?_append_left (by omega)] at hy
   exact h2 i y hy
  ·have hin:i=n:=by
    have:=(List.getElem?_eq_some_iff.1 hy).1
    simp[h1] at this
    omega
   subst hin
   rw[List.getElem?_append_right (by omega),h1] at hy
   simp at hy
   exact hy ▸ hx
theorem open_slR {α:Type} (R:World→α→List Value→Prop) {t e:TypeId} {s bt:Nat} (ht:Tryz.prog.underlying t=some (.slice e)) (hs:Tryz.prog.cellsOf e=s) (hbt:Tryz.prog.bytesOf e=bt) (hb1:1≤bt) (hs0:1≤s)
  (hR:∀ fuel cs x,cs.length=s→DataW.trod enc Tryz.prog w base spare held fuel e cs=some x→Wgt Tryz.prog e x.1→∃ y,R w y cs)
  {fuel:Nat} {v:Value} {x:DataW H × List MemPlace} (h:DataW.trod enc Tryz.prog w base spare held fuel t [v]=some x) (hw:Wgt Tryz.prog t x.1) :
  ∃ A n c,v=.slice A n c∧n≤c∧n≤140737488351232∧∃ xs:List α,SlR R w s A n xs:=by
 rcases open_slice ht h with ⟨h0,_⟩ | ⟨a,len,cap,m,n,D,Pl,hcs,hb,hl,hm,hmm,hx,hi⟩
 ·simp only[List.cons.injEq,and_true] at h0
  subst h0
  exact⟨none,0,0,rfl,Nat.le_refl _,by omega,[],SlR.nil _ _ _ _⟩
 ·simp only[List.cons.injEq,and_true] at hcs
  subst hcs
  have hml:len≤m:=by rw[hmm];split <;> omega
  rw[hx] at hw
  have hlen:len≤140737488351232:=by
   have:=hw ((len+(m - len))*bt) (by simp[DataW.weights,ht,hbt])
   simp only[reachBytes] at this
   have h2:(len+(m - len))*1≤(len+(m - len))*bt:=Nat.mul_le_mul_left _ hb1
   omega
  refine⟨some a,len,cap,rfl,hl,hlen,?_⟩
  obtain⟨l,hl1,hp⟩:=choose_list (α:=α × List Value) (p:=fun i y=>y.2.length=s∧R w y.1 y.2∧∀ j v,y.2[j]?=some v→w.cell? (a.add (i*s+j))=some v) len (fun i hil=>by
   obtain⟨cs',hc,htr⟩:=hi i (by omega)
   rw[hs] at hc
   obtain⟨_,hcl,hat⟩:=World.cells?_some hc
   have hwi:Wgt Tryz.prog e (D i,Pl i).1:=fun n hn=>hw n (by
    simp only[DataW.weights,ht]
    refine List.mem_cons_of_mem _ (List.mem_append_left _ (weightsAll_mem (d:=D i) ?_ hn))
    exact List.mem_map.2 ⟨i,by simpa using hil,rfl⟩)
   obtain⟨y,hy⟩:=hR n cs' _ hcl htr hwi
   refine⟨(y,cs'),hcl,hy,fun j v hv=>?_⟩
   have hj:j < s:=by
    have:=(List.getElem?_eq_some_iff.1 hv).1
    rw[hcl] at this
    exact this
   have g:=hat j hj
   rw[Go.Deep.add_add] at g
   rw[← hv]
   simpa using g)
  refine⟨l.map (·.1),by simp[hl1],?_⟩
  rcases Nat.eq_zero_or_pos len with h0 | h0
  ·exact .inl h0
  ·focus
    obtain⟨y0,hy0⟩:∃ y,l[0]?=some y:=⟨_,List.getElem?_eq_getElem (by omega)⟩
    obtain⟨q1,q2,q3⟩:=hp 0 y0 hy0
    obtain⟨v0,hv0⟩:∃ v,y0.2[0]?=some v:=⟨_,List.getElem?_eq_getElem (by omega)⟩
    have q0:=q3 0 v0 hv0
    have ea:a=⟨a.block,a.off,none⟩:=by
     have:=spot_of_cell q0
     simpa [Addr.add] using this
    have eadd:∀ n,a.add n=⟨a.block,a.off+n,none⟩:=fun n=>by
     unfold Addr.add
     split
     ·rename_i h;subst h;exact ea
     ·rfl
    refine .inr ⟨a.block,a.off,by rw[← ea],?_,fun i x hx=>?_⟩
    ·have:=cell_lt q0
     rw[eadd] at this
     exact this
    ·obtain⟨y,hy,rfl⟩:∃ y,l[i]?=some y∧y.1=x:=by simpa using hx
     obtain⟨r1,r2,r3⟩:=hp i y hy
     refine⟨y.2,r1,r2,fun j v hv=>?_⟩
     have:=r3 j v hv
     rw[eadd] at this
     rw[Nat.add_assoc]
     exact this
theorem SlR.all {α:Type} {R:World→α→List Value→Prop} {s n:Nat} {A:Option Addr} {xs:List α} (h:SlR R w s A n xs) {P:α→Prop} (hP:∀ x r,R w x r→P x):∀ x∈xs,P x:=fun x hx=>by
 obtain⟨i,hi⟩:=List.mem_iff_getElem?.1 hx
 have hil:=(List.getElem?_eq_some_iff.1 hi).1
 obtain⟨b,o,y,r,_,_,hy,_,hR,_⟩:=h.get (k:=i) (by rw[← h.1];exact hil)
 rw[hi] at hy
 cases hy
 exact hP _ _ hR
theorem cellsU8:Tryz.prog.cellsOf 5=1:=by kernel_rfl
def U8R (w:World) (x:Int) (r:List Value):Prop:=r=[.int .u8 x]∧0≤x∧x≤255
theorem open_u8R (fuel:Nat) (cs:List Value) (x:DataW H × List MemPlace) (_:cs.length=1) (h:DataW.trod enc Tryz.prog w base spare held fuel 5 cs=some x) (_:Wgt Tryz.prog 5 x.1):∃ y,U8R w y cs:=by
 obtain⟨k,e0,_,w0⟩:=DataW.trod_int Tryz.underlying5 h
 simp only[Lit.wf,Bool.and_eq_true,decide_eq_true_eq] at w0
 have e1:IntKind.u8.min=0:=rfl
 have e2:IntKind.u8.max=255:=rfl
 rw[e1,e2] at w0
 exact⟨k,e0,w0.1,w0.2⟩
theorem slice_spot {r:_root_.Go.Reach} {b0:Nat} {a:Addr} {n c:Nat} (hv:Value.okWide Tryz.prog w r b0 45 (.slice (some a) n c)):a.spot=none:=by
 simp only[Value.okWide,Tryz.underlying45,Cell.okWide,Cell.ok] at hv
 have h:=hv.2.2
 simp only[World.has] at h
 exact h.2.1
theorem open_bytesV {b0:Nat} {r:_root_.Go.Reach} {v:Value} {d:DataW H} {p:List MemPlace} (hv:Value.okWide Tryz.prog w r b0 45 v) (h:DataW.Trod enc Tryz.prog w base spare held 45 v d p) (hw:Wgt Tryz.prog 45 d) :
  ∃ A c l,v=.slice A l.length c∧Sl w 1 A l.length (byts l)∧l.length≤c∧l.length≤140737488351232∧B8 l∧∀ x,A=some x→x.spot=none:=by
 obtain⟨X,l,c,rfl⟩:=Go.WideShapes.okWide_slice Tryz.underlying45 hv
 obtain⟨fuel,hf⟩:=h
 obtain⟨A,n,c',e,h1,h2,xs,hxs⟩:=open_slR U8R Tryz.underlying45 cellsU8 (show Tryz.prog.bytesOf 5=1 by kernel_rfl) (by omega) (by omega) open_u8R (show DataW.trod enc Tryz.prog w base spare held fuel 45 [.slice X l c]=some (d,p) from hf) hw
 have hall:=hxs.all (P:=fun x=>0≤x∧x≤255) fun x r hr=>hr.2
 obtain⟨g1,g2⟩:=hxs
 subst g1
 refine⟨A,c',xs,e,⟨by simp[byts],?_⟩,h1,h2,hall,fun x hA=>?_⟩
 ·rcases g2 with g2 | ⟨b,o,g3,g4,g5⟩
  ·exact .inl g2
  ·refine .inr ⟨b,o,g3,g4,fun j v hv=>?_⟩
   obtain⟨x,hx,rfl⟩:∃ x,xs[j]?=some x∧.int .u8 x=v:=by simpa [byts] using hv
   obtain⟨r,_,⟨hr,_⟩,hc⟩:=g5 j x hx
   have:=hc 0 (.int .u8 x) (by rw[hr];rfl)
   simpa using this
 ·rw[e,hA] at hv
  exact slice_spot hv
end
end
end Go.Proofs.YtmbnlccafcfbeaaGreatDoor
