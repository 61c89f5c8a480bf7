/- Parts of the proof: SepE, Dec1, Dec2, Dec3, Open. -/
import Derived.Deep.Fields
import Derived.Deep.Slices
import Derived.OpenShut
import Derived.ProofKit
import Derived.Test.YtmbnlccafcfbeaaDoorChecked
import Derived.Test.YtmbnlccafcfbeaaDoorPeA
import Derived.Test.YtmbnlccafcfbeaaDoorPe10
import Derived.Test.YtmbnlccafcfbeaaDoorPe5
import Derived.Test.YtmbnlccafcfbeaaDoorPe8
import Derived.Test.YtmbnlccafcfbeaaDoorPe9
set_option linter.unusedVariables false
set_option linter.unusedSimpArgs false
set_option linter.unusedSectionVars false
set_option maxRecDepth 100000
namespace Go.Proofs.YtmbnlccafcfbeaaDoor
section
open Go.RowKit
theorem sinks_done {ops:Array Oper} {L:Array Bool} (h:Clo ops L) {n:Nat} (hn:L.getD n false=true):∀ f i,sinks ops n f i=true→L.getD i false=true
 | 0,i,hs=>h n i hn hs
 | f+1,i,hs=>by
  unfold sinks at hs
  simp only[Bool.or_eq_true] at hs
  rcases hs with hs | hs
  ·exact h n i hn hs
  ·obtain⟨k,_,hk⟩:=List.any_eq_true.1 hs
   simp only[Bool.and_eq_true] at hk
   obtain⟨h1,h2⟩:=hk
   exact h k i (sinks_done h hn f k h2) h1
/-- what the text says: acts: the writing operations in their order; lim: how many of them can have run ahead of a reading one -/
def seqB (ops:Array Oper) (acts:List Nat) (lim:Nat→Nat) (N:Nat):Bool :=
 (acts.all fun i=>decide (i < N)) && decide acts.Nodup && ((List.range acts.length).all fun r=>r == 0 || sinks ops (acts.getD r 0) 9 (acts.getD (r - 1) 0))
  && ((List.range N).all fun i=>acts.contains i || decide (acts.length≤lim i) || sinks ops (acts.getD (lim i) 0) 9 i)
theorem seqB.out {ops:Array Oper} {acts:List Nat} {lim:Nat→Nat} {N:Nat} (h:seqB ops acts lim N=true) :
  (∀ i∈acts,i < N)∧acts.Nodup∧(∀ r,r < acts.length→r=0 ∨ sinks ops (acts.getD r 0) 9 (acts.getD (r - 1) 0)=true)∧(∀ i,i < N→i ∉ acts→acts.length≤lim i ∨ sinks ops (acts.getD (lim i) 0) 9 i=true):=by
 unfold seqB at h
 simp only[Bool.and_eq_true,List.all_eq_true,decide_eq_true_eq,Bool.or_eq_true,List.mem_range,beq_iff_eq,List.contains_iff_mem] at h
 exact⟨h.1.1.1,h.1.1.2,h.1.2,fun i hi hn=>(h.2 i hi).elim (fun h=>h.elim (fun h=>absurd h hn) .inl) .inr⟩
theorem getD_mem {l:List Nat} {r:Nat} (h:r < l.length):l.getD r 0∈l:=by
 rw[List.getD_eq_getElem?_getD,List.getElem?_eq_getElem h]
 exact List.getElem_mem h
theorem nodup_getD {l:List Nat} (hn:l.Nodup) {r s:Nat} (hr:r < l.length) (hs:s < l.length) (h:l.getD r 0=l.getD s 0):r=s:=by
 rw[List.getD_eq_getElem?_getD,List.getD_eq_getElem?_getD,List.getElem?_eq_getElem hr,List.getElem?_eq_getElem hs] at h
 exact(List.getElem_inj hn).1 h
def SeqI (acts:List Nat) (N:Nat) (vals:Nat→Value) (S:List Value→World→Prop) (L:Array Bool) (vs:Nat→Value) (w:World):Prop :=
 ∃ k,k≤acts.length∧(∀ r,r < acts.length→L.getD (acts.getD r 0) false=decide (r < k))∧S ((acts.take k).map vs) w∧∀ i,i < N→i ∉ acts→L.getD i false=true→vs i=vals i
theorem wp_seq {P:Program} {id:Nat} {a0:Act} {W:World} {l:List Oper} {Q:Exit→Act→World→Prop} (N:Nat) (ds:Nat→List Nat) (acts:List Nat) (lim:Nat→Nat) (vals:Nat→Value) (S:List Value→World→Prop) (hm:P.follows .mixedOrders=true) (hBB:sepJ l.toArray N ds=true)
  (hN:(List.range N).all (fun i=>match dstOf l.toArray i with | some d=>decide (d < a0.tmps.size) | none=>true)=true) (hC:seqB l.toArray acts lim N=true)
  (h0:S [] W.drew)
  (hpure:∀ i,i < N→i ∉ acts→∀ o,l[i]?=some o→∀ k vs w,k≤lim i→(∀ r,r < acts.length→acts.getD r 0∈ds i→r < k)→S ((acts.take k).map vs) w→(∀ j∈ds i,j ∉ acts→vs j=vals j)→(execOp (frm l.toArray a0 vs (ds i)).eval o).run P w=.ok (.value (vals i)) w)
  (hact:∀ r,r < acts.length→∀ o,l[acts.getD r 0]?=some o→∀ vs w,S ((acts.take r).map vs) w→(∀ j∈ds (acts.getD r 0),j ∉ acts→vs j=vals j) →
   Made P (fun v w'=>S ((acts.take r).map vs++[v]) w') ((execOp (frm l.toArray a0 vs (ds (acts.getD r 0))).eval o).run P w))
  (hend:∀ vs w,S (acts.map vs) w→(∀ i,i < N→i ∉ acts→vs i=vals i)→wpList P l.toArray Q [] (frm l.toArray a0 vs (List.range N)) w) :
  (Code.region id l.toArray true).wp P Q a0 W:=by
 have hs:=SepJ.of hBB
 obtain⟨cN,cD,cA,cL⟩:=seqB.out hC
 have hdN:∀ i,i < N→∀ j∈ds i,j < N:=fun i hi j hj=>by
  have hw:=hs.dep i hi j hj
  have hoi:∃ o,l.toArray[i]?=some o:=⟨l.toArray[i]'(by rw[hs.size];exact hi),Array.getElem?_eq_getElem _⟩
  obtain⟨o,ho⟩:=hoi
  unfold waits at hw
  rw[ho] at hw
  obtain⟨e,he,hb⟩:=Array.any_eq_true'.1 hw
  simp only[Bool.and_eq_true,beq_iff_eq] at hb
  have:=hs.back i hi o ho e he hb.1
  omega
 refine wp_region_invD N ds (SeqI acts N vals S) hm hBB hN (fun vs=>?_) ?_ ?_
 ·exact⟨0,Nat.zero_le _,fun r hr=>by rw[getD_replicate_false];simp,h0,fun i _ _ h=>by rw[getD_replicate_false] at h;cases h⟩
 ·intro i hi o ho L vs w hls hun hwt hcl ⟨k,hk,hL,hS,hV⟩
  have hun':=und' hun
  have hvd:∀ j∈ds i,j ∉ acts→vs j=vals j:=fun j hj hn=>hV j (hdN i hi j hj) hn (hwt j (hs.dep i hi j hj))
  by_cases hia:i∈acts
  ·obtain⟨r,hr,hri⟩:=List.mem_iff_getElem.1 hia
   have hri':acts.getD r 0=i:=by rw[List.getD_eq_getElem?_getD,List.getElem?_eq_getElem hr];exact hri
   subst hri'
   have hkr:k≤r:=by
    have:=hL r hr
    rw[hun'] at this
    have:=of_decide_eq_false this.symm
    omega
   have hrk:r≤k:=by
    rcases cA r hr with h | h
    ·omega
    ·by_cases hr0:r=0
     ·omega
     have h1:=sinks_done (clo_set hcl hwt hls hi) (getD_setN hls hi) 9 _ h
     rw[getD_set_ne false (fun e=>by have:=nodup_getD cD hr (by omega) e;omega)] at h1
     rw[hL (r - 1) (by omega)] at h1
     have:=of_decide_eq_true h1
     omega
   obtain rfl:k=r:=by omega
   refine(hact k hr o ho vs w hS hvd).mono fun v w' hS'=>?_
   refine⟨k+1,hr,fun s hsl=>?_,?_,fun j hj hjn hjl=>?_⟩
   ·by_cases hsk:s=k
    ·subst hsk
     rw[getD_setN hls hi]
     simp
    ·rw[getD_set_ne false (fun e=>hsk (nodup_getD cD hr hsl e).symm),hL s hsl]
     rw[decide_eq_decide]
     omega
   ·have e1:((acts.take (k+1)).map fun j=>if j=acts.getD k 0 then v else vs j)=(acts.take k).map vs++[v]:=by
     rw[List.take_add_one,List.getElem?_eq_getElem hr,Option.toList,List.map_append]
     congr 1
     ·refine List.map_congr_left fun j hj=>?_
      rw[if_neg]
      intro e
      obtain⟨s,hs',hse⟩:=List.mem_iff_getElem.1 hj
      rw[List.length_take] at hs'
      rw[List.getElem_take] at hse
      have:acts.getD s 0=acts.getD k 0:=by rw[← e,← hse,List.getD_eq_getElem?_getD,List.getElem?_eq_getElem (by omega)];rfl
      have:=nodup_getD cD (by omega) hr this
      omega
     ·rw[List.map_singleton,if_pos]
      rw[List.getD_eq_getElem?_getD,List.getElem?_eq_getElem hr]
      rfl
    rw[e1]
    exact hS'
   ·have hne:j≠acts.getD k 0:=fun e=>hjn (e ▸ hia)
    show(if j=acts.getD k 0 then v else vs j)=vals j
    rw[if_neg hne]
    rw[getD_set_ne false (fun e=>hne e.symm)] at hjl
    exact hV j hj hjn hjl
  ·have hkl:k≤lim i:=by
    rcases cL i hi hia with h | h
    ·omega
    ·by_cases hlt:lim i < k
     ·have h1:=hL (lim i) (by omega)
      rw[decide_eq_true hlt] at h1
      rw[sinks_done hcl h1 9 _ h] at hun'
      cases hun'
     ·omega
   have hlow:∀ r,r < acts.length→acts.getD r 0∈ds i→r < k:=fun r hr hm=>by
    have h1:=hwt _ (hs.dep i hi _ hm)
    rw[hL r hr] at h1
    exact of_decide_eq_true h1
   rw[hpure i hi hia o ho k vs w hkl hlow hS hvd]
   refine made_ok ⟨k,hk,fun r hr=>?_,?_,fun j hj hjn hjl=>?_⟩
   ·rw[getD_set_ne false (fun e=>hia (by rw[e];exact getD_mem hr))]
    exact hL r hr
   ·have e1:((acts.take k).map fun j=>if j=i then vals i else vs j)=(acts.take k).map vs:=List.map_congr_left fun j hj=>by
     rw[if_neg]
     intro e
     exact hia (e ▸ List.mem_of_mem_take hj)
    rw[e1]
    exact hS
   ·by_cases hji:j=i
    ·subst hji
     show(if j=j then vals j else vs j)=vals j
     rw[if_pos rfl]
    ·show(if j=i then vals i else vs j)=vals j
     rw[if_neg hji]
     rw[getD_set_ne false (fun e=>hji e.symm)] at hjl
     exact hV j hj hjn hjl
 ·intro L vs w hls hall ⟨k,hk,hL,hS,hV⟩
  have hkl:k=acts.length:=by
   by_cases h:k < acts.length
   ·have:=hL k h
    rw[hall _ (cN _ (getD_mem h))] at this
    simp at this
   ·omega
  subst hkl
  rw[List.take_length] at hS
  exact hend vs w hS fun i hi hn=>hV i hi hn (hall i hi)
end
section
open Go.RowKit
attribute [local go_sem] Oper.semAt_some
theorem i_strD:(Tryd.prog.info? 9).map (fun i=>(i.zero,i.size,i.bytes))=some (some (.string ⟨#[]⟩),1,16):=by kernel_rfl
section
variable {S:Nat→Prop} {w w1 w2 w':World} {B:Nat}
theorem own_kp {base:Nat} {e:TypeId} {size n:Nat} {v:Value} {xs:List Value} (h:w.ownsRow base e size v n xs) (hk:Kp S w w') (hn:∀ k,v.ownBlock=some k→¬ S k):w'.ownsRow base e size v n xs:=own_local h fun k he=>hk.block k (h.lt k he).2 (hn k he)
theorem own_below {base:Nat} {e:TypeId} {size n:Nat} {v:Value} {xs:List Value} (h:w.ownsRow base e size v n xs) (hb:Below w.heap.size w w'):w'.ownsRow base e size v n xs:=own_local h fun k he=>hb.block k (h.lt k he).2
/-- own blocks, appended to -/
theorem Kp.grown {row:Option Nat} (h:Kp S w w1) (hg:w1.grownBy w2 row) (hr:∀ k,row=some k→w.heap.size≤k):Kp S w w2 :=
 h.trans (Kp.of_grown (S:=fun k=>row=some k) hg fun k hk=>hk) fun k hk he=>by have:=hr k he;omega
theorem Kp.belowTo (h:Kp S w w1) (hb:Below w1.heap.size w1 w2):Kp S w w2:=h.trans (Kp.of_below (S:=S) hb) fun _ _ h=>h
end
/-- a row of texts that was read -/
def StrP (w:World) (g bb:Nat) (xs:List ByteArray) (r:Rd) (e:Ending) (w':World):Prop:=∃ V,e=.returned V∧RdX w' g bb r∧Kp (fun k=>k=g) w w'∧w'.ownsRow w.heap.size 9 1 V xs.length (txtCells xs)
theorem Rd.count_len {most:Int} {r:Rd} (hb:B8 r.b):0≤(r.count most).1∧(r.count most).1 < 18446744073709551616:=by
 have:=Rd.u_rg hb
 unfold P64 at this
 unfold Rd.count
 split
 ·exact⟨Int.le_refl _,by show(0:Int) < 18446744073709551616;decide⟩
 ·split
  ·exact⟨Int.le_refl _,by show(0:Int) < 18446744073709551616;decide⟩
  ·split
   ·exact⟨Int.le_refl _,by show(0:Int) < 18446744073709551616;decide⟩
   ·exact this
theorem Rd.count_le {most:Int} {r:Rd} (h:0≤most):(r.count most).1≤most:=by
 unfold Rd.count
 split
 ·exact h
 ·split
  ·exact h
  ·rename_i h1
   split
   ·exact h
   ·omega
section
variable {w:World} {g bb:Nat} {r:Rd} {most:Int}
set_option maxHeartbeats 4000000 in
theorem stringsOf_any (h:RdX w g bb r) (hbb:bb < w.heap.size) (h0:0≤most) (h1:most≤4294967296):Calls Tryd.prog 35 #[.pointer (some ⟨g,0,none⟩),.int .i64 most] w (StrP w g bb (r.list most (Rd.text 4096)).1 (r.list most (Rd.text 4096)).2):=by
 have cC:=Count_any h hbb h0 h1
 have hcl:=Rd.count_len (most:=most) h.b8
 have hcm:=Rd.count_le (r:=r) h0
 have hl:r.list most (Rd.text 4096)=rep (Rd.text 4096) (r.count most).2 (r.count most).1.toNat:=rfl
 rw[hl]
 obtain⟨q,hq⟩:∃ q,q=r.count most:=⟨_,rfl⟩
 rw[← hq] at cC hcl hcm ⊢
 obtain⟨N,r1⟩:=q
 dsimp only at cC hcl hcm ⊢
 obtain⟨n,rfl⟩:=Int.eq_ofNat_of_zero_le hcl.1
 rw[Int.toNat_natCast]
 have hn:n≤4294967296:=by omega
 have HG:Hid (g < w.heap.size∧bb < w.heap.size):=lh (by
  obtain⟨A,c,h⟩:=h
  exact⟨h.bk.lt,hbb⟩)
 obtain⟨i0,hi,hz0,hz1,hz2⟩:=info_parts i_strD
 have HI:=lh (And.intro hi (And.intro hz0 (And.intro hz1 hz2)))
 clear h hl hq hcl hcm hi hz0 hz1 hz2 hbb
 go_enter Tryd.func35,Tryd.ntmps35
 go_wp2_with fail
 refine cC.mono ?_
 rintro e w1 ⟨rfl,hx1,hk1⟩
 have HX1:=lh (And.intro hx1 hk1)
 clear cC hx1 hk1
 go_wp2_with fail
 go_loopw [5,9] (fun v ix wr=>∃ (j:Nat),ix=.int .i64 (j:Int)∧j≤n∧RdX wr g bb (rep (Rd.text 4096) r1 j).2∧wr.ownsRow w.heap.size 9 1 v j (txtCells (rep (Rd.text 4096) r1 j).1)∧Kp (fun k=>k=g) w wr) (fun _ ix _=>n - (intOf ix).toNat)
 case atStart=>exact⟨0,rfl,Nat.zero_le _,HX1.out.1,World.ownsRow_nil _ _ _ _,HX1.out.2⟩
 case round =>
  clear HX1
  obtain⟨j,rfl,hj,hx,ho,hk⟩:=hrel
  obtain⟨A1,c1,rfl,hc1⟩:=own_shape ho
  by_cases hlt:j < n
  ·have cS:=String_any hx (Nat.lt_of_lt_of_le HG.out.2 hk.size)
   obtain⟨s,hs⟩:∃ s,s=(Rd.text 4096 (rep (Rd.text 4096) r1 j).2).1:=⟨_,rfl⟩
   rw[← hs] at cS
   have HS:=lh hs
   have HO:=lh (And.intro ho hk)
   clear hx ho hk hs
   go_wp2_with fail
   refine cS.mono ?_
   rintro e w2 ⟨rfl,hx2,hk2⟩
   have hnb:∀ k,(Value.slice A1 j c1).ownBlock=some k→w.heap.size≤k:=fun k hk=>(HO.out.1.lt k hk).1
   have ho2:w2.ownsRow w.heap.size 9 1 (.slice A1 j c1) j (txtCells (rep (Rd.text 4096) r1 j).1):=own_kp HO.out.1 hk2 fun k he e=>by have:=hnb k he;have:=HG.out.1;omega
   have hb3:Below w2.heap.size w2 (w2.alloc (.cells #[.string s] 9)):=(Below.refl _ _).alloc (Nat.le_refl _) _
   have HO3:=lh (own_below ho2 hb3)
   have HK3:Hid (Kp (fun k=>k=g) w (w2.alloc (.cells #[.string s] 9))):=lh ((HO.out.2.trans hk2 fun _ _ h=>h).belowTo hb3)
   have HX3:=lh (hx2.below hb3)
   have HNB:=lh hnb
   have hs3:Sl (w2.alloc (.cells #[.string s] 9)) 1 (some ⟨w2.heap.size,0,none⟩) 1 [.string s]:=⟨rfl,.inr ⟨_,0,rfl,by simp,fun i x hx=>by
    cases i with
    | zero=>cases hx;exact(Bk.new w2 9 #[.string s]).cell 0
    | succ i=>cases hx⟩⟩
   have HS3:=lh hs3
   have hz3:w.heap.size≤(w2.alloc (.cells #[.string s] 9)).heap.size:=HK3.out.size
   clear cS hx2 hk2 ho2 hb3 hnb hs3
   go_wp2_with (at_builtin;refine wpList_app rfl (.tmp 11) (.tmp 14) 40 rfl Tryd.underlying40 HI.out.1 HI.out.2.1 HI.out.2.2.1 HI.out.2.2.2 rfl (by decide) (n:=j) (xs:=txtCells (rep (Rd.text 4096) r1 j).1) rfl HO3.out (A:=some ⟨w2.heap.size,0,none⟩) (m:=1) (c:=1) (news:=[.string s]) rfl HS3.out (fun u hu=>by cases hu with | head=>rfl | tail _ h=>cases h) (by unfold maxLen;omega) (by omega) hz3 ?_;intro v4 w4 ho4 hg4 h44;have HO4:=lh ho4;have HG4:=lh hg4;clear ho4 hg4 h44)
   go_roundw
   case rel =>
    have HX4:=HX3.out.kp (Kp.of_grown (S:=fun k=>(Value.slice A1 j c1).ownBlock=some k) HG4.out fun k hk=>hk) (fun e=>by have:=HNB.out _ e;have:=HG.out.1;omega) (fun e=>by have:=HNB.out _ e;have:=HG.out.2;omega)
    refine⟨j+1,by go_num,hlt,HX4,?_,HK3.out.grown HG4.out HNB.out⟩
    have e:txtCells (rep (Rd.text 4096) r1 (j+1)).1=txtCells (rep (Rd.text 4096) r1 j).1++[.string s]:=by
     rw[HS.out,show(rep (Rd.text 4096) r1 (j+1)).1=(rep (Rd.text 4096) r1 j).1++[(Rd.text 4096 (rep (Rd.text 4096) r1 j).2).1] from rfl]
     unfold txtCells
     rw[List.map_append]
     rfl
    rw[e]
    exact HO4.out
   case measure=>simp[intOf];omega
  ·obtain rfl:j=n:=by omega
   have HE:=lh (And.intro hx (And.intro ho hk))
   clear hlt hj hx ho hk
   go_wp2_with fail
   go_ret
   refine⟨_,rfl,HE.out.1,HE.out.2.2,?_⟩
   rw[rep_len]
   exact HE.out.2.1
end
end
section
/-- an error stays -/
def Stk {α:Type} (dec:Rd→α × Rd):Prop:=∀ r:Rd,r.e≠0→(dec r).2=r
theorem stkI:Stk Rd.i:=fun r h=>by unfold Rd.i;rw[Rd.u_e h]
theorem stkB:Stk Rd.bool:=fun r h=>by unfold Rd.bool;rw[if_pos h]
theorem stkS (most:Int):Stk (Rd.text most):=fun r h=>by unfold Rd.text;rw[Rd.u_e h,if_pos h]
section
variable {α β:Type} {ea:α→List Int} {eb:β→List Int} {da:Rd→α × Rd} {db:Rd→β × Rd} {P:α→Prop} {Q:β→Prop}
theorem stkL (most:Int) (da:Rd→α × Rd):Stk (Rd.list most da):=fun r h=>by unfold Rd.list;rw[Rd.count_e h];rfl
/-- one behind the other -/
def Rd.two (da:Rd→α × Rd) (db:Rd→β × Rd) (r:Rd):(α × β) × Rd:=(((da r).1,(db (da r).2).1),(db (da r).2).2)
theorem codT (ha:Cod ea da P) (hb:Cod eb db Q):Cod (fun x:α × β=>ea x.1++eb x.2) (Rd.two da db) fun x=>P x.1∧Q x.2:=by
 refine⟨fun x s h=>?_,fun r h=>ha.st r (hb.st _ h),fun r h8 h=>?_⟩
 ·unfold Rd.two
  rw[List.append_assoc,ha.fw _ _ h.1]
  dsimp only
  rw[hb.fw _ _ h.2]
 ·have h1:=hb.st _ h
  obtain⟨a1,a2,a3⟩:=ha.bw r h8 h1
  obtain⟨b1,b2,b3⟩:=hb.bw _ (ha.b8 h8 h1) h
  exact⟨a1,by rw[a2,b2];simp only[Rd.two,List.append_assoc],a3,b3⟩
theorem codM {mk:α→β} {fro:β→α} (h:Cod ea da P) (h1:∀ x,fro (mk x)=x) (h2:∀ x,mk (fro x)=x):Cod (fun x=>ea (fro x)) (fun r=>(mk (da r).1,(da r).2)) fun x=>P (fro x):=by
 refine⟨fun x s hx=>?_,fun r hr=>h.st r hr,fun r h8 hr=>?_⟩
 ·rw[h.fw _ _ hx];dsimp only;rw[h2]
 ·obtain⟨a1,a2,a3⟩:=h.bw r h8 hr
  dsimp only
  rw[h1]
  exact⟨a1,a2,a3⟩
theorem flatMap_len (hne:∀ x,ea x≠[]):∀ l:List α,l.length≤(l.flatMap ea).length
 | []=>Nat.le_refl _
 | x::t=>by
  have:=flatMap_len hne t
  have:=List.length_pos_iff.2 (hne x)
  rw[List.flatMap_cons,List.length_append,List.length_cons]
  omega
theorem list_fw (hne:∀ x,ea x≠[]) {most:Int} (hm:most < 18446744073709551616) (l:List α) (hl:(l.length:Int)≤most) (s:List Int):Rd.list most da ⟨encL ea l++s,0⟩=rep da ⟨l.flatMap ea++s,0⟩ l.length:=by
 have:=flatMap_len hne l
 unfold Rd.list encL
 rw[List.append_assoc,Rd.count_fw ⟨by omega,by omega⟩ hl (by rw[List.length_append];omega)]
 dsimp only
 rw[Int.toNat_natCast]
theorem codL (hne:∀ x,ea x≠[]) {most:Int} (hm:most < 18446744073709551616) (h:Cod ea da P):Cod (encL ea) (Rd.list most da) fun l=>(l.length:Int)≤most∧∀ x∈l,P x:=by
 have hst0:∀ r:Rd,(r.count most).2.e=0→r.e=0:=fun r hr=>by
  by_cases h0:r.e=0
  ·exact h0
  ·rw[Rd.count_e h0] at hr;exact hr
 have hrs:∀ (r:Rd) k,(rep da r k).2.e=0→r.e=0:=fun r k=>by
  induction k with
  | zero=>exact fun h=>h
  | succ k ih=>exact fun hk=>ih (h.st _ hk)
 refine⟨fun l s hl=>?_,fun r hr=>hst0 r (hrs _ _ hr),fun r h8 hr=>?_⟩
 ·rw[list_fw hne hm l hl.1,rep_fw h l hl.2 s l.length (Nat.le_refl _),List.take_length,List.drop_length]
  rfl
 ·have h1:=hrs _ _ hr
  obtain⟨c1,c2,c3,c4,c5,c6⟩:=Rd.count_bw h8 h1
  obtain⟨d1,d2,d3,d4⟩:=rep_bw h c6 _ hr
  have hl:((rep da (r.count most).2 (r.count most).1.toNat).1.length:Int)=(r.count most).1:=by
   rw[rep_len];unfold P64 at c3;omega
  refine⟨c1,?_,?_,d3⟩
  ·unfold encL Rd.list
   rw[hl,List.append_assoc,← d2]
   exact c2
  ·unfold Rd.list
   rw[hl]
   exact c4
/-- beyond the limits: error 8 -/
theorem rep_stk (h:Stk da) {r:Rd} (hr:r.e≠0):∀ k,(rep da r k).2=r
 | 0=>rfl
 | k+1=>by
  unfold rep
  dsimp only
  rw[rep_stk h hr k]
  exact h r hr
theorem rep_split (da:Rd→α × Rd) (r:Rd) (i:Nat):∀ k,(rep da r (i+k)).2=(rep da (rep da r i).2 k).2
 | 0=>rfl
 | k+1=>by
  show(da (rep da r (i+k)).2).2=(da (rep da (rep da r i).2 k).2).2
  rw[rep_split da r i k]
theorem big8 (hne:∀ x,ea x≠[]) {most:Int} (hm0:0≤most) (hm:most < 18446744073709551616) (h:Cod ea da P) (hs:Stk da) {P0:α→Prop} (h8:∀ x s,P0 x→¬ P x→(da ⟨ea x++s,0⟩).2=Rd.bad 8) (l:List α) (h0:∀ x∈l,P0 x) (hl:l.length < 18446744073709551616) (s:List Int)
  (hn:¬ ((l.length:Int)≤most∧∀ x∈l,P x)):(Rd.list most da ⟨encL ea l++s,0⟩).2=Rd.bad 8:=by
 by_cases hlm:(l.length:Int)≤most
 ·rw[list_fw hne hm l hlm]
  have hx:¬ ∀ x∈l,P x:=fun h=>hn ⟨hlm,h⟩
  clear hn hl hlm
  have key:∀ l:List α,(∀ x∈l,P0 x)→(¬ ∀ x∈l,P x)→(rep da ⟨l.flatMap ea++s,0⟩ l.length).2=Rd.bad 8:=by
   intro l
   induction l with
   | nil=>exact fun _ h=>absurd (fun x hx=>(by cases hx)) h
   | cons x t ih =>
    intro h0 hx
    rw[List.length_cons,Nat.add_comm t.length 1,rep_split da _ 1 t.length]
    show(rep da (da ⟨(x::t).flatMap ea++s,0⟩).2 t.length).2=_
    rw[List.flatMap_cons,List.append_assoc]
    by_cases hp:P x
    ·rw[h.fw x _ hp]
     exact ih (fun y hy=>h0 y (by simp[hy])) fun ht=>hx fun y hy=>(List.mem_cons.1 hy).elim (fun e=>e ▸ hp) (ht y)
    ·rw[h8 x _ (h0 x (by simp)) hp]
     exact rep_stk hs (by decide) _
  exact key l h0 hx
 ·unfold Rd.list encL
  rw[List.append_assoc,Rd.count_big ⟨by omega,by omega⟩ (by omega)]
  rfl
end
def decIns (r:Rd):Ins × Rd:=((r.i.1,r.i.2.i.1,r.i.2.i.2.i.1),r.i.2.i.2.i.2)
def decMth (r:Rd):Mth × Rd :=
 (⟨(r.text 4096).1,(r.text 4096).2.i.1,(r.text 4096).2.i.2.i.1,((r.text 4096).2.i.2.i.2.list 4000 decIns).1,(((r.text 4096).2.i.2.i.2.list 4000 decIns).2.list 1024 (Rd.text 4096)).1⟩,
  (((r.text 4096).2.i.2.i.2.list 4000 decIns).2.list 1024 (Rd.text 4096)).2)
def decCls (r:Rd):Cls × Rd :=
 (⟨(r.text 4096).1,(r.text 4096).2.bool.1,((r.text 4096).2.bool.2.list 30 (Rd.text 4096)).1,(((r.text 4096).2.bool.2.list 30 (Rd.text 4096)).2.list 30 decMth).1⟩,
  (((r.text 4096).2.bool.2.list 30 (Rd.text 4096)).2.list 30 decMth).2)
def decCode (r:Rd):List Cls × Rd:=r.list 60 decCls
theorem encU_ne (n:Int):encU n≠[]:=by unfold encU;simp
theorem encI_ne (n:Int):encI n≠[]:=encU_ne _
theorem encS_ne (s:ByteArray):encS s≠[]:=by unfold encS;simp[encU_ne]
theorem encIns_ne (x:Ins):encIns x≠[]:=by unfold encIns;simp[encI_ne]
theorem encMth_ne (x:Mth):encMth x≠[]:=by unfold encMth;simp[encS_ne]
theorem encCls_ne (x:Cls):encCls x≠[]:=by unfold encCls;simp[encS_ne]
def insP (x:Ins):Prop:=I64 x.1∧I64 x.2.1∧I64 x.2.2
theorem codIns:Cod encIns decIns insP:=by
 have h:=codT codI (codT codI codI)
 refine⟨fun x s hx=>?_,fun r hr=>h.st r hr,fun r h8 hr=>?_⟩
 ·have e:=h.fw x s hx
  unfold encIns
  rw[List.append_assoc (encI x.1)]
  exact e
 ·obtain⟨a1,a2,a3⟩:=h.bw r h8 hr
  refine⟨a1,?_,a3⟩
  unfold encIns
  rw[List.append_assoc (encI _)]
  exact a2
def mthP (m:Mth):Prop:=(m.nm.size:Int)≤4096∧I64 m.p∧I64 m.l∧((m.code.length:Int)≤4000∧∀ x∈m.code,insP x)∧((m.names.length:Int)≤1024∧∀ s∈m.names,(s.size:Int)≤4096)
theorem codMth:Cod encMth decMth mthP:=by
 have h:=codM (mk:=fun x:ByteArray × Int × Int × List Ins × List ByteArray=>(⟨x.1,x.2.1,x.2.2.1,x.2.2.2.1,x.2.2.2.2⟩:Mth)) (fro:=fun m=>(m.nm,m.p,m.l,m.code,m.names))
  (codT (codS 4096 (by decide)) (codT codI (codT codI (codT (codL encIns_ne (most:=4000) (by decide) codIns) (codL encS_ne (most:=1024) (by decide) (codS 4096 (by decide))))))) (fun x=>rfl) (fun x=>rfl)
 have e:encMth=fun m=>encS m.nm++(encI m.p++(encI m.l++(encL encIns m.code++encL encS m.names))):=funext fun m=>by unfold encMth;simp only[List.append_assoc]
 rw[e]
 exact h
def clsP (k:Cls):Prop:=(k.nm.size:Int)≤4096∧True∧((k.fields.length:Int)≤30∧∀ s∈k.fields,(s.size:Int)≤4096)∧((k.ms.length:Int)≤30∧∀ m∈k.ms,mthP m)
theorem codCls:Cod encCls decCls clsP:=by
 have h:=codM (mk:=fun x:ByteArray × Bool × List ByteArray × List Mth=>(⟨x.1,x.2.1,x.2.2.1,x.2.2.2⟩:Cls)) (fro:=fun m=>(m.nm,m.actor,m.fields,m.ms))
  (codT (codS 4096 (by decide)) (codT codB (codT (codL encS_ne (most:=30) (by decide) (codS 4096 (by decide))) (codL encMth_ne (most:=30) (by decide) codMth)))) (fun x=>rfl) (fun x=>rfl)
 have e:encCls=fun m=>encS m.nm++(encB m.actor++(encL encS m.fields++encL encMth m.ms)):=funext fun m=>by unfold encCls;simp only[List.append_assoc]
 rw[e]
 exact h
def codeP (cs:List Cls):Prop:=(cs.length:Int)≤60∧∀ k∈cs,clsP k
theorem codCode:Cod encCode decCode codeP:=codL encCls_ne (by decide) codCls
theorem stkMth:Stk decMth:=fun r h=>by
 have h1:=stkS 4096 r h
 have h2:=stkI r h
 have h3:=stkL 4000 decIns r h
 have h4:=stkL 1024 (Rd.text 4096) r h
 unfold decMth
 rw[h1,h2,h2,h3,h4]
theorem stkCls:Stk decCls:=fun r h=>by
 have h1:=stkS 4096 r h
 have h2:=stkB r h
 have h3:=stkL 30 decMth r h
 have h4:=stkL 30 (Rd.text 4096) r h
 unfold decCls
 rw[h1,h2,h4,h3]
/-- what a small class can be -/
def clsP0 (k:Cls):Prop:=(k.nm.size:Int)≤4096∧(∀ s∈k.fields,(s.size:Int)≤4096)∧k.fields.length < 18446744073709551616∧k.ms.length < 18446744073709551616∧∀ m∈k.ms,mthP m
theorem cls8 (k:Cls) (s:List Int) (h0:clsP0 k) (hn:¬ clsP k):(decCls ⟨encCls k++s,0⟩).2=Rd.bad 8:=by
 have e:encCls k++s=encS k.nm++(encB k.actor++(encL encS k.fields++(encL encMth k.ms++s))):=by unfold encCls;simp only[List.append_assoc]
 unfold decCls
 rw[e,(codS 4096 (by decide)).fw _ _ h0.1]
 dsimp only
 rw[codB.fw _ _ trivial]
 dsimp only
 by_cases hf:(k.fields.length:Int)≤30
 ·rw[(codL encS_ne (most:=30) (by decide) (codS 4096 (by decide))).fw _ _ ⟨hf,h0.2.1⟩]
  dsimp only
  exact big8 encMth_ne (by decide) (by decide) codMth stkMth (P0:=mthP) (fun x s h h'=>absurd h h') k.ms h0.2.2.2.2 h0.2.2.2.1 s fun h=>hn ⟨h0.1,trivial,⟨hf,h0.2.1⟩,h⟩
 ·rw[big8 encS_ne (by decide) (by decide) (codS 4096 (by decide)) (stkS 4096) (P0:=fun s=>(s.size:Int)≤4096) (fun x s h h'=>absurd h h') k.fields h0.2.1 h0.2.2.1 _ fun h=>hf h.1]
  exact stkL 30 decMth _ (by decide)
theorem code8 (cs:List Cls) (s:List Int) (h0:∀ k∈cs,clsP0 k) (hl:cs.length < 18446744073709551616) (hn:¬ codeP cs):(decCode ⟨encCode cs++s,0⟩).2=Rd.bad 8 :=
 big8 encCls_ne (by decide) (by decide) codCls stkCls cls8 cs h0 hl s hn
end
section
open Go.RowKit
section
variable {S:Nat→Prop} {w w':World} {base n size:Nat} {e:TypeId} {v:Value} {xs:List Value}
theorem own_kpT (h:w.ownsRow base e size v n xs) (hk:Kp S w w') (hS:∀ k,S k→∃ t cs,Bk w k t cs∧t≠e):w'.ownsRow base e size v n xs :=
 own_kp h hk fun k he hs=>let ⟨t,cs,hb,ht⟩:=hS k hs;row_ne h hb ht he
theorem own_base {b':Nat} (h:w.ownsRow base e size v n xs) (hb:b'≤base):w.ownsRow b' e size v n xs:=by
 obtain⟨h1,h2 | ⟨g,cap,cur,rfl,h3,h4⟩⟩:=h
 ·exact⟨h1,.inl h2⟩
 ·exact⟨h1,.inr ⟨g,cap,cur,rfl,Nat.le_trans hb h3,h4⟩⟩
theorem own_le {A:Option Addr} {c:Nat} (h:w.ownsRow base e size (.slice A n c) n xs):n≤c:=by
 obtain⟨A',c',he,hl⟩:=own_shape h
 injection he with _ _ he
 omega
end
theorem RdX.bkx {w:World} {g bb:Nat} {r:Rd} (h:RdX w g bb r):∃ cs,Bk w g 79 cs:=let ⟨A,c,h⟩:=h;⟨_,h.bk⟩
theorem Sl.one {w:World} (t:TypeId) (cs:Array Value) (hc:0 < cs.size):Sl (w.alloc (.cells cs t)) cs.size (some ⟨w.heap.size,0,none⟩) 1 cs.toList :=
 ⟨by rw[Nat.one_mul];simp,.inr ⟨_,0,rfl,by simp,fun j v hv=>by
  have hj:j < cs.size:=by have:=(List.getElem?_eq_some_iff.1 hv).1;simpa using this
  rw[Nat.zero_add,(Bk.new w t cs).cell j]
  simpa using hv⟩⟩
theorem own_bk {w:World} {base n size k:Nat} {e:TypeId} {v:Value} {xs:List Value} (h:w.ownsRow base e size v n xs) (hv:v.ownBlock=some k):∃ cs,Bk w k e cs:=by
 obtain⟨h1,⟨rfl,_⟩ | ⟨g,cap,cur,rfl,h3,h4,_⟩⟩:=h
 ·cases hv
 ·injection hv with hv
  change g=k at hv
  subst hv
  exact⟨cur,h4⟩
theorem one3 (a b c:Int):∀ u∈([.int .i64 a,.int .i64 b,.int .i64 c]:List Value),u.oneCell'=true:=fun u hu=>by
 simp only[List.mem_cons,List.not_mem_nil,or_false] at hu
 rcases hu with rfl | rfl | rfl <;> rfl
theorem one4 (a:ByteArray) (b:Bool) (A B:Option Addr) (n c m d:Nat):∀ u∈([.string a,.bool b,.slice A n c,.slice B m d]:List Value),u.oneCell'=true:=fun u hu=>by
 simp only[List.mem_cons,List.not_mem_nil,or_false] at hu
 rcases hu with rfl | rfl | rfl | rfl <;> rfl
theorem one5 (a:ByteArray) (b e:Int) (A B:Option Addr) (n c m d:Nat):∀ u∈([.string a,.int .i64 b,.int .i64 e,.slice A n c,.slice B m d]:List Value),u.oneCell'=true:=fun u hu=>by
 simp only[List.mem_cons,List.not_mem_nil,or_false] at hu
 rcases hu with rfl | rfl | rfl | rfl | rfl <;> rfl
theorem i_mthD:(Tryd.prog.info? 43).map (fun i=>(i.zero,i.size,i.bytes))=some (some (.agg #[.string ⟨#[]⟩,.int .i64 0,.int .i64 0,.slice none 0 0,.slice none 0 0]),5,80):=by kernel_rfl
theorem i_clsD:(Tryd.prog.info? 48).map (fun i=>(i.zero,i.size,i.bytes))=some (some (.agg #[.string ⟨#[]⟩,.bool false,.slice none 0 0,.slice none 0 0]),4,72):=by kernel_rfl
theorem i_insD:(Tryd.prog.info? 37).map (fun i=>(i.zero,i.size,i.bytes))=some (some (.agg #[.int .i64 0,.int .i64 0,.int .i64 0]),3,24):=by kernel_rfl
/-- cells of a row of structs -/
def Els {α:Type} (R:World→α→List Value→Prop) (s:Nat) (w:World) (l:List α) (xs:List Value):Prop :=
 ∃ rs:List (List Value),xs=rs.flatten∧rs.length=l.length∧∀ (i:Nat) x r,l[i]?=some x→rs[i]?=some r→r.length=s∧R w x r
section
variable {α:Type} {R:World→α→List Value→Prop} {s:Nat} {w w':World} {l:List α} {xs:List Value}
theorem Els.nil (R:World→α→List Value→Prop) (s:Nat) (w:World):Els R s w [] []:=⟨[],rfl,rfl,fun i x r h=>(by cases h)⟩
theorem Els.mono (h:Els R s w l xs) (hR:∀ x r,R w x r→R w' x r):Els R s w' l xs :=
 let ⟨rs,h1,h2,h3⟩:=h;⟨rs,h1,h2,fun i x r hx hr=>let ⟨a,b⟩:=h3 i x r hx hr;⟨a,hR x r b⟩⟩
theorem Els.snoc {x:α} {r:List Value} (h:Els R s w l xs) (hr:R w x r) (hl:r.length=s):Els R s w (l++[x]) (xs++r):=by
 obtain⟨rs,h1,h2,h3⟩:=h
 refine⟨rs++[r],by rw[h1];simp,by simp[h2],fun i y q hy hq=>?_⟩
 by_cases hi:i < l.length
 ·rw[List.getElem?_append_left hi] at hy
  rw[List.getElem?_append_left (by omega)] at hq
  exact h3 i y q hy hq
 ·rw[List.getElem?_append_right (by omega)] at hy
  rw[List.getElem?_append_right (by omega),h2] at hq
  obtain⟨k,hk⟩:∃ k,k=i - l.length:=⟨_,rfl⟩
  rw[← hk] at hy hq
  cases k with
  | zero=>cases hy;cases hq;exact⟨hl,hr⟩
  | succ k=>cases hy
theorem flat_get {s:Nat}:∀ (rs:List (List Value)),(∀ r∈rs,r.length=s)→∀ (i:Nat) (r:List Value),rs[i]?=some r→∀ j,j < s→rs.flatten[i*s+j]?=r[j]?
 | [],_,i,r,h,_,_=>by cases h
 | q::t,hl,0,r,h,j,hj=>by
  cases h
  rw[List.flatten_cons,Nat.zero_mul,Nat.zero_add,List.getElem?_append_left (by rw[hl q (by simp)];exact hj)]
 | q::t,hl,i+1,r,h,j,hj=>by
  have hq:=hl q (by simp)
  have e:(i+1)*s=s+i*s:=by rw[Nat.succ_mul,Nat.add_comm]
  rw[List.flatten_cons,e,List.getElem?_append_right (by omega),show s+i*s+j - q.length=i*s+j by omega]
  exact flat_get t (fun r hr=>hl r (by simp[hr])) i r h j hj
theorem Els.slr {A:Option Addr} {n:Nat} (h:Els R s w l xs) (hs:Sl w s A n xs) (hn:l.length=n):SlR R w s A n l:=by
 obtain⟨rs,h1,h2,h3⟩:=h
 refine⟨hn,?_⟩
 rcases hs.2 with h0 | ⟨b,o,hA,hb,hc⟩
 ·exact .inl h0
 ·refine .inr ⟨b,o,hA,hb,fun i x hx=>?_⟩
  have hi:i < rs.length:=by rw[h2];exact(List.getElem?_eq_some_iff.1 hx).1
  obtain⟨a1,a2⟩:=h3 i x rs[i] hx (List.getElem?_eq_getElem hi)
  refine⟨rs[i],a1,a2,fun j v hv=>?_⟩
  have hall:∀ r∈rs,r.length=s:=fun r hr=>by
   obtain⟨k,hk,rfl⟩:=List.mem_iff_getElem.1 hr
   exact(h3 k (l[k]'(by omega)) rs[k] (List.getElem?_eq_getElem _) (List.getElem?_eq_getElem hk)).1
  have hjs:j < s:=by rw[← a1];exact(List.getElem?_eq_some_iff.1 hv).1
  have e:=flat_get rs hall i rs[i] (List.getElem?_eq_getElem hi) j hjs
  rw[← h1,hv] at e
  rw[Nat.add_assoc]
  exact hc _ _ e
end
def MthO (w:World) (m:Mth) (r:List Value):Prop:=∃ A c N d,r=[.string m.nm,.int .i64 m.p,.int .i64 m.l,.slice A m.code.length c,.slice N m.names.length d]∧w.ownsRow 0 37 3 (.slice A m.code.length c) m.code.length (codeCells m.code)∧w.ownsRow 0 9 1 (.slice N m.names.length d) m.names.length (txtCells m.names)
def ClsO (w:World) (k:Cls) (r:List Value):Prop:=∃ F c M d xs,r=[.string k.nm,.bool k.actor,.slice F k.fields.length c,.slice M k.ms.length d]∧w.ownsRow 0 9 1 (.slice F k.fields.length c) k.fields.length (txtCells k.fields)∧w.ownsRow 0 43 5 (.slice M k.ms.length d) k.ms.length xs∧Els MthO 5 w k.ms xs
section
variable {S:Nat→Prop} {w w':World}
theorem MthO.kp {m:Mth} {r:List Value} (h:MthO w m r) (hk:Kp S w w') (hS:∀ k,S k→∃ t cs,Bk w k t cs∧t≠37∧t≠9):MthO w' m r :=
 let ⟨A,c,N,d,h1,h2,h3⟩:=h
 ⟨A,c,N,d,h1,own_kpT h2 hk fun k hs=>(let ⟨t,cs,a,b,_⟩:=hS k hs;⟨t,cs,a,b⟩),own_kpT h3 hk fun k hs=>(let ⟨t,cs,a,_,b⟩:=hS k hs;⟨t,cs,a,b⟩)⟩
theorem ClsO.kp {m:Cls} {r:List Value} (h:ClsO w m r) (hk:Kp S w w') (hS:∀ k,S k→∃ t cs,Bk w k t cs∧t≠37∧t≠9∧t≠43):ClsO w' m r :=
 let ⟨F,c,M,d,xs,h1,h2,h3,h4⟩:=h
 ⟨F,c,M,d,xs,h1,own_kpT h2 hk fun k hs=>(let ⟨t,cs,a,_,b,_⟩:=hS k hs;⟨t,cs,a,b⟩),own_kpT h3 hk fun k hs=>(let ⟨t,cs,a,_,_,b⟩:=hS k hs;⟨t,cs,a,b⟩),
  h4.mono fun x r hx=>hx.kp hk fun k hs=>(let ⟨t,cs,a,b,c,_⟩:=hS k hs;⟨t,cs,a,b,c⟩)⟩
theorem MthO.mthR {m:Mth} {r:List Value} (h:MthO w m r) (hm:m.ok):MthR w m r :=
 let ⟨A,c,N,d,h1,h2,h3⟩:=h
 ⟨hm,A,c,N,d,h1,own_le h2,own_sl h2,own_le h3,own_sl h3⟩
theorem Els.ofIn {α:Type} {R Q:World→α→List Value→Prop} {s:Nat} {l:List α} {xs:List Value} (h:Els R s w l xs) (hR:∀ x∈l,∀ r,R w x r→Q w x r):Els Q s w l xs :=
 let ⟨rs,h1,h2,h3⟩:=h;⟨rs,h1,h2,fun i x r hx hr=>let ⟨a,b⟩:=h3 i x r hx hr;⟨a,hR x (List.mem_of_getElem? hx) r b⟩⟩
theorem ClsO.clsR {k:Cls} {r:List Value} (h:ClsO w k r) (hk:k.ok) (hm:∀ m∈k.ms,m.ok):ClsR w k r :=
 let ⟨F,c,M,d,xs,h1,h2,h3,h4⟩:=h
 ⟨hk,F,c,M,d,h1,own_le h2,own_sl h2,own_le h3,(h4.ofIn fun m hmm r hr=>hr.mthR (hm m hmm)).slr (own_sl h3) rfl⟩
end
theorem i64_lit {z:Int} (h:I64 z):(Lit.int .i64 z).wf=true:=by
 simp only[Lit.wf,Bool.and_eq_true,decide_eq_true_eq]
 exact h
theorem mthP.ok {m:Mth} (h:mthP m):m.ok :=
 ⟨i64_lit h.2.1,i64_lit h.2.2.1,fun x hx=>let ⟨a,b,c⟩:=h.2.2.2.1.2 x hx;⟨i64_lit a,i64_lit b,i64_lit c⟩,by have:=h.1;omega,fun s hs=>by have:=h.2.2.2.2.2 s hs;omega,by have:=h.2.2.2.1.1;omega,by have:=h.2.2.2.2.1;omega⟩
theorem clsP.ok {k:Cls} (h:clsP k):k.ok :=
 ⟨by have:=h.1;omega,fun s hs=>by have:=h.2.2.1.2 s hs;omega,by have:=h.2.2.1.1;omega,by have:=h.2.2.2.1;omega⟩
end
section
open Go.ChangeShapes Go.WideShapes Go.ChangeAt Go.RowKit Go.Deep
theorem cellsInstr:Tryd.prog.cellsOf 37=3:=by kernel_rfl
theorem cellsMethod:Tryd.prog.cellsOf 43=5:=by kernel_rfl
theorem cellsInt64:Tryd.prog.cellsOf 2=1:=by kernel_rfl
theorem cellsInt:Tryd.prog.cellsOf 3=1:=by kernel_rfl
theorem cellsStr:Tryd.prog.cellsOf 9=1:=by kernel_rfl
theorem cellsSlI:Tryd.prog.cellsOf 41=1:=by kernel_rfl
theorem cellsSlS:Tryd.prog.cellsOf 40=1:=by kernel_rfl
section
variable {H:Type} {enc:TypeId × Value→H} {w:World} {base:Nat} {spare:Nat→Bool} {held:Bool}
theorem open_instr {fuel:Nat} {cs:List Value} {x:DataW H × List MemPlace} (h:DataW.trod enc Tryd.prog w base spare held fuel 37 cs=some x) :
  ∃ a b c:Int,cs=[.int .i64 a,.int .i64 b,.int .i64 c]∧(Lit.int .i64 a).wf=true∧(Lit.int .i64 b).wf=true∧(Lit.int .i64 c).wf=true:=by
 obtain⟨xs,n,_,_,hlen,hxl,hg⟩:=DataW.trod_struct Tryd.underlying37 h
 rw[cellsInstr] at hlen
 match cs,hlen with
 | [u0,u1,u2],_ =>
  match xs,hxl with
  | [y0,y1,y2],_ =>
   have h0:DataW.trod enc Tryd.prog w base spare held n 3 (([u0,u1,u2].drop 0).take (Tryd.prog.cellsOf 3))=some y0:=hg 0 _ rfl
   have h1:DataW.trod enc Tryd.prog w base spare held n 2 (([u0,u1,u2].drop 1).take (Tryd.prog.cellsOf 2))=some y1:=hg 1 _ rfl
   have h2:DataW.trod enc Tryd.prog w base spare held n 2 (([u0,u1,u2].drop 2).take (Tryd.prog.cellsOf 2))=some y2:=hg 2 _ rfl
   rw[cellsInt] at h0
   rw[cellsInt64] at h1 h2
   obtain⟨a,e0,_,w0⟩:=DataW.trod_int Tryd.underlying3 (show DataW.trod enc Tryd.prog w base spare held n 3 [u0]=some y0 from h0)
   obtain⟨b,e1,_,w1⟩:=DataW.trod_int Tryd.underlying2 (show DataW.trod enc Tryd.prog w base spare held n 2 [u1]=some y1 from h1)
   obtain⟨c,e2,_,w2⟩:=DataW.trod_int Tryd.underlying2 (show DataW.trod enc Tryd.prog w base spare held n 2 [u2]=some y2 from h2)
   simp only[List.cons.injEq,and_true] at e0 e1 e2
   subst e0 e1 e2
   exact⟨a,b,c,rfl,w0,w1,w2⟩
theorem spot_of_cell {a:Addr} {v:Value} (h:w.cell? a=some v):a=⟨a.block,a.off,none⟩:=by
 have:=World.cell?_spot h
 cases a
 simp_all
theorem choose_list {α:Type} {p:Nat→α→Prop}:∀ n,(∀ i,i < n→∃ x,p i x)→∃ l:List α,l.length=n∧∀ i x,l[i]?=some x→p i x
 | 0,_=>⟨[],rfl,fun i x h=>by cases h⟩
 | n+1,h=>by
  obtain⟨l,h1,h2⟩:=choose_list n (fun i hi=>h i (by omega))
  obtain⟨x,hx⟩:=h n (by omega)
  refine⟨l++[x],by simp[h1],fun i y hy=>?_⟩
  by_cases hi:i < n
  ·rw[List.getElem?_append_left (by omega)] at hy
   exact h2 i y hy
  ·have hin:i=n:=by
    have:=(List.getElem?_eq_some_iff.1 hy).1
    simp[h1] at this
    omega
   subst hin
   rw[List.getElem?_append_right (by omega),h1] at hy
   simp at hy
   exact hy ▸ hx
end
end
end Go.Proofs.YtmbnlccafcfbeaaDoor
