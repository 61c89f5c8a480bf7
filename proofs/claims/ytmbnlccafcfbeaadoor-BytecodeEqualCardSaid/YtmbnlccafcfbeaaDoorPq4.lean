/- Parts of the proof: SepD, Wire8, Wire2, Targets. -/
import Derived.Laws.BytesArg
import Derived.Lib.BufferWrite
import Derived.Test.YtmbnlccafcfbeaaDoorPqA
import Derived.Test.YtmbnlccafcfbeaaDoorPq0
import Derived.Test.YtmbnlccafcfbeaaDoorPq3
import Derived.Test.YtmbnlccafcfbeaaDoorPqGrowK
set_option linter.unusedVariables false
set_option linter.unusedSimpArgs false
set_option linter.unusedSectionVars false
set_option maxRecDepth 100000
namespace Go.Proofs.YtmbnlccafcfbeaaDoor
section
open Go.RowKit
/-- what can be read off the region's text -/
def sepJ (ops:Array Oper) (N:Nat) (ds:Nat→List Nat):Bool :=
 decide (ops.size=N) && Region.noSelect ops &&
 (List.range N).all (fun i=>((ops[i]?).map (fun o=>o.guard.isNone)).getD true && (ds i).all (waits ops i) &&
  (List.range N).all (fun j=>((dstOf ops i).isNone || dstOf ops i != dstOf ops j || i == j) &&
   ((ops[i]?).map fun o=>o.op.operands.all fun x=>match x with | .tmp t=>dstOf ops j != some t || (ds i).contains j || waits ops j i | _=>true).getD true) &&
  ((ops[i]?).map fun o=>o.after.all fun e=>!Region.binds .any e || decide (e.on < i)).getD true)
structure SepJ (ops:Array Oper) (N:Nat) (ds:Nat→List Nat):Prop where
 size:ops.size=N
 sel:Region.noSelect ops=true
 bare:∀ i,i < N→∀ o,ops[i]?=some o→o.guard=none
 back:∀ i,i < N→∀ o,ops[i]?=some o→∀ e∈o.after,Region.binds .any e=true→e.on < i
 dep:∀ i,i < N→∀ j∈ds i,waits ops i j=true
 opnd:∀ i,i < N→∀ o,ops[i]?=some o→∀ t,.tmp t∈o.op.operands→∀ j,j < N→dstOf ops j=some t→j∈ds i ∨ waits ops j i=true
 dist:∀ i,i < N→∀ j,j < N→∀ d,dstOf ops i=some d→dstOf ops j=some d→i=j
theorem SepJ.of {ops:Array Oper} {N:Nat} {ds:Nat→List Nat} (h:sepJ ops N ds=true):SepJ ops N ds:=by
 unfold sepJ at h
 rw[Bool.and_eq_true,Bool.and_eq_true] at h
 obtain⟨⟨h1,h2⟩,h3⟩:=h
 have h1:=of_decide_eq_true h1
 have key:∀ i,i < N→((((ops[i]?).map (fun o=>o.guard.isNone)).getD true=true∧(ds i).all (waits ops i)=true)∧(List.range N).all (fun j=>((dstOf ops i).isNone || dstOf ops i != dstOf ops j || i == j) && ((ops[i]?).map fun o=>o.op.operands.all fun x=>match x with | .tmp t=>dstOf ops j != some t || (ds i).contains j || waits ops j i | _=>true).getD true)=true)∧((ops[i]?).map fun o=>o.after.all fun e=>!Region.binds .any e || decide (e.on < i)).getD true=true:=fun i hi=>by
  have:=List.all_eq_true.1 h3 i (List.mem_range.2 hi)
  rw[Bool.and_eq_true,Bool.and_eq_true,Bool.and_eq_true] at this
  exact this
 refine⟨h1,h2,fun i hi o ho=>?_,fun i hi o ho e he hb=>?_,fun i hi j hj=>?_,fun i hi o ho t ht j hj hd=>?_,fun i hi j hj d hdi hdj=>?_⟩
 ·have:=(key i hi).1.1.1
  rw[ho] at this
  simpa using this
 ·have:=(key i hi).2
  rw[ho] at this
  simp only[Option.map_some,Option.getD_some] at this
  have h5:=Array.all_eq_true'.1 this e he
  rw[hb] at h5
  simpa using h5
 ·exact List.all_eq_true.1 (key i hi).1.1.2 j hj
 ·have h4:=List.all_eq_true.1 (key i hi).1.2 j (List.mem_range.2 hj)
  rw[Bool.and_eq_true] at h4
  have h5:=h4.2
  rw[ho] at h5
  simp only[Option.map_some,Option.getD_some] at h5
  have h6:=Array.all_eq_true'.1 h5 _ ht
  simp only[hd] at h6
  simpa using h6
 ·have h4:=List.all_eq_true.1 (key i hi).1.2 j (List.mem_range.2 hj)
  rw[Bool.and_eq_true] at h4
  have h5:=h4.1
  rw[hdi,hdj] at h5
  simpa using h5
section
variable {P:Program} {ops:Array Oper} {N:Nat} {ds:Nat→List Nat} {a0:Act}
theorem frmJ_slot (hs:SepJ ops N ds) (vs:Nat→Value):∀ l,(∀ i∈l,i < N)→∀ i∈l,∀ d,dstOf ops i=some d→d < a0.tmps.size→(frm ops a0 vs l).tmps[d]?=some (vs i)
 | [],_,i,h,_,_,_=>by cases h
 | k::l,hl,i,h,d,hd,hlt=>by
  unfold frm
  by_cases hk:dstOf ops k=some d
  ·have e:k=i:=hs.dist k (hl k (List.mem_cons_self ..)) i (hl i h) d hk hd
   subst e
   rw[hk,put_tmps,if_pos rfl,if_pos (by rw[frmI_size];exact hlt)]
  ·have hne:i≠k:=fun e=>hk (e ▸ hd)
   have hi:i∈l:=(List.mem_cons.1 h).resolve_left hne
   have ih:=frmJ_slot hs vs l (fun j hj=>hl j (List.mem_cons_of_mem _ hj)) i hi d hd hlt
   cases hkd:dstOf ops k with
   | none=>exact ih
   | some e =>
    rw[put_tmps,if_neg (fun h=>hk (by rw[hkd,h]))]
    exact ih
end
theorem clo_set {ops:Array Oper} {L:Array Bool} {N i:Nat} (hc:Clo ops L) (hwt:∀ j,waits ops i j=true→L.getD j false=true) (hl:L.size=N) (hi:i < N):Clo ops (L.setIfInBounds i true):=fun k j hk hj=>by
 by_cases hki:i=k
 ·subst hki
  exact done_set (hwt j hj)
 ·rw[getD_set_ne false hki] at hk
  exact done_set (hc k j hk hj)
theorem wp_region_invD {P:Program} {id:Nat} {a0:Act} {W:World} {l:List Oper} {Q:Exit→Act→World→Prop} (N:Nat) (ds:Nat→List Nat) (I:Array Bool→(Nat→Value)→World→Prop) (hm:P.follows .mixedOrders=true) (hBB:sepJ l.toArray N ds=true)
  (hN:(List.range N).all (fun i=>match dstOf l.toArray i with | some d=>decide (d < a0.tmps.size) | none=>true)=true)
  (h0:∀ vs,I (Array.replicate N false) vs W.drew)
  (hstep:∀ i,i < N→∀ o,l[i]?=some o→∀ (L:Array Bool) vs w,L.size=N→L.getD i true=false→(∀ j,waits l.toArray i j=true→L.getD j false=true)→Clo l.toArray L→I L vs w →
   Made P (fun v w'=>I (L.setIfInBounds i true) (fun j=>if j=i then v else vs j) w') ((execOp (frm l.toArray a0 vs (ds i)).eval o).run P w))
  (hend:∀ (L:Array Bool) vs w,L.size=N→(∀ j,j < N→L.getD j false=true)→I L vs w→wpList P l.toArray Q [] (frm l.toArray a0 vs (List.range N)) w) :
  (Code.region id l.toArray true).wp P Q a0 W:=by
 have hs:=SepJ.of hBB
 have hN':∀ i,i < N→∀ d,dstOf l.toArray i=some d→d < a0.tmps.size:=fun i hi d hd=>by
  have:=List.all_eq_true.1 hN i (List.mem_range.2 hi)
  rw[hd] at this
  simpa using this
 have key:∀ (f:Nat) (L:Array Bool) (a:Act) (w:World) (vs:Nat→Value),FInv l.toArray N (fun L vs w=>I L vs w∧Clo l.toArray L) a0 vs L a w→((List.range N).filter fun i=>!L.getD i true).length=f→wpAny P .any l.toArray Q f L a w:=by
  intro f
  induction f with
  | zero =>
   intro L a w vs inv hf
   have hall:∀ j,j < N→L.getD j false=true:=fun j hj=>by
    cases h1:L.getD j false with
    | true=>rfl
    | false =>
     have h2:L.getD j true=false:=getD_in (by rw[inv.lsize];omega) h1
     have:j∈(List.range N).filter fun i=>!L.getD i true:=List.mem_filter.2 ⟨List.mem_range.2 (by omega),by rw[h2];rfl⟩
     rw[List.length_eq_zero_iff.1 hf] at this
     cases this
   have hae:a=frm l.toArray a0 vs (List.range N):=by
    have h1:a.tmps=(frm l.toArray a0 vs (List.range N)).tmps:=by
     refine Array.ext_getElem? fun d=>?_
     by_cases h:∃ j,j < N∧dstOf l.toArray j=some d
     ·obtain⟨j,hj,hjd⟩:=h
      rw[frmJ_slot hs vs (List.range N) (fun k hk=>List.mem_range.1 hk) j (List.mem_range.2 hj) d hjd (hN' j hj d hjd),inv.slot j hj (hall j hj) d hjd (hN' j hj d hjd)]
     ·rw[frmI_rest vs (List.range N) d fun j hj hjd=>h ⟨j,List.mem_range.1 hj,hjd⟩,inv.rest d fun j hj _ hjd=>h ⟨j,hj,hjd⟩]
    have h2:a.defers=(frm l.toArray a0 vs (List.range N)).defers:=by rw[frmI_defers,inv.defers]
    cases a
    cases hq:frm l.toArray a0 vs (List.range N)
    rw[hq] at h1 h2
    simp only at h1 h2
    rw[h1,h2]
   refine⟨List.eq_nil_iff_forall_not_mem.2 fun j hj=>?_,?_⟩
   ·have h0:=(mem_ready.1 hj).1
    have hlt:=ready_lt hj
    rw[getD_both' hlt (hall j (by rw[inv.lsize] at hlt;omega))] at h0
    cases h0
   ·rw[hae]
    exact hend L vs w inv.lsize hall inv.inv.1
  | succ f ih =>
   intro L a w vs inv hf
   refine⟨fun h0=>?_,fun i hr=>?_⟩
   ·exfalso
    obtain⟨j,hj⟩:∃ j,j∈(List.range N).filter fun i=>!L.getD i true:=by
     cases hl:(List.range N).filter fun i=>!L.getD i true with
     | nil=>rw[hl] at hf;cases hf
     | cons j l=>exact⟨j,List.mem_cons_self ..⟩
    obtain⟨h1,h2⟩:=List.mem_filter.1 hj
    have hex:∀ m,∀ j,j < m→j < N→L.getD j true=false→∃ i,i∈Region.ready .any l.toArray L:=by
     intro m
     induction m with
     | zero=>intro j hj;omega
     | succ m ih2 =>
      intro j hj hjN hu
      by_cases hrd:j∈Region.ready .any l.toArray L
      ·exact⟨j,hrd⟩
      ·have hoj:∃ o,l.toArray[j]?=some o:=⟨l.toArray[j]'(by rw[hs.size];exact hjN),Array.getElem?_eq_getElem _⟩
       obtain⟨o,ho⟩:=hoj
       have:¬ ∀ e∈o.after,Region.binds .any e=true→L.getD e.on false=true:=fun hall=>hrd (mem_ready.2 ⟨hu,o,ho,hall⟩)
       obtain⟨e,hne⟩:=Classical.not_forall.1 this
       obtain⟨he,hne⟩:=Classical.not_forall.1 hne
       obtain⟨hb,hne⟩:=Classical.not_forall.1 hne
       have hlt:=hs.back j hjN o ho e he hb
       exact ih2 e.on (by omega) (by omega) (getD_in (by rw[inv.lsize];omega) (by simpa using hne))
    obtain⟨i,hi⟩:=hex (j+1) j (by omega) (List.mem_range.1 h1) (by simpa using h2)
    rw[h0] at hi
    cases hi
   ·have hcnt:=count_step inv.lsize hr hf
    have hlt:=ready_lt hr
    rw[inv.lsize] at hlt
    obtain⟨hun,o,ho,hall⟩:=mem_ready.1 hr
    have hol:l[i]?=some o:=by simpa using ho
    have hg:o.guard=none:=hs.bare i hlt o ho
    unfold wpOp
    rw[ho]
    simp only[]
    rw[if_pos (by simp[Region.wanted,hg])]
    refine .inl ?_
    have hdo:dstOf l.toArray i=o.dst:=by unfold dstOf;rw[ho];rfl
    have hsel:=Region.noSelect_spec hs.sel
    have hwt:∀ j,waits l.toArray i j=true→L.getD j false=true:=fun j hj=>waits_listed hr hj
    have hdlt:∀ j∈ds i,j < N:=fun j hj=>by
     have hw:=hs.dep i hlt j hj
     unfold waits at hw
     rw[ho] at hw
     obtain⟨e,he,hb⟩:=Array.any_eq_true'.1 hw
     simp only[Bool.and_eq_true,beq_iff_eq] at hb
     have:=hs.back i hlt o ho e he hb.1
     omega
    have hdl:∀ j∈ds i,L.getD j false=true:=fun j hj=>hwt j (hs.dep i hlt j hj)
    have hex:execOp a.eval o=execOp (frm l.toArray a0 vs (ds i)).eval o:=execOp_congr o (fun cs b=>hsel i o cs b ho) (put_operand fun d hd=>by
     by_cases h:∃ j,j < N∧dstOf l.toArray j=some d
     ·obtain⟨j,hj,hjd⟩:=h
      rcases hs.opnd i hlt o ho d hd j hj hjd with hm | hm
      ·rw[frmJ_slot hs vs (ds i) hdlt j hm d hjd (hN' j hj d hjd),inv.slot j hj (hdl j hm) d hjd (hN' j hj d hjd)]
      ·have hnj:¬ L.getD j false=true:=fun h=>by
        have h1:=inv.inv.2 j i h hm
        rw[getD_both' (by rw[inv.lsize];exact hlt) h1] at hun
        cases hun
       have hdd:∀ k,k < N→L.getD k false=true→dstOf l.toArray k≠some d:=fun k hk hkl hkd=>by
        have:=hs.dist k hk j hj d hkd hjd
        subst this
        exact hnj hkl
       rw[frmI_rest vs (ds i) d fun k hk=>hdd k (hdlt k hk) (hdl k hk),inv.rest d hdd]
     ·rw[frmI_rest vs (ds i) d fun j hj hjd=>h ⟨j,hdlt j hj,hjd⟩,inv.rest d fun j hj _ hjd=>h ⟨j,hj,hjd⟩])
    refine wp_of_made (T:=fun v w'=>I (L.setIfInBounds i true) (fun j=>if j=i then v else vs j) w'∧Clo l.toArray (L.setIfInBounds i true)) (by
     rw[hex]
     exact(hstep i hlt o hol L vs w inv.lsize hun hwt inv.inv.2 inv.inv.1).mono fun v w' h=>And.intro h (clo_set inv.inv.2 hwt inv.lsize hlt)) fun v w' hl=>?_
    have hget:∀ j,(L.setIfInBounds i true).getD j false=true→j=i ∨ L.getD j false=true:=fun j hj=>by
     by_cases h:i=j
     ·exact .inl h.symm
     ·rw[getD_set_ne false h] at hj;exact .inr hj
    refine ih _ _ _ (fun j=>if j=i then v else vs j) ⟨by rw[put_defers,inv.defers],by rw[put_size,inv.size],fun j hj hjl d hd hdl2=>?_,fun d hd=>?_,by simp[inv.lsize],hl⟩ hcnt
    ·by_cases hji:j=i
     ·subst hji
      rw[← hdo,hd,put_tmps,if_pos rfl,if_pos (by rw[inv.size];exact hdl2),if_pos rfl]
     ·have hjl':=(hget j hjl).resolve_left hji
      have h1:=inv.slot j hj hjl' d hd hdl2
      rw[if_neg hji]
      cases hod:o.dst with
      | none=>exact h1
      | some e =>
       rw[put_tmps,if_neg (fun h2=>hji (hs.dist j hj i hlt d hd (by rw[hdo,hod,h2])))]
       exact h1
    ·have h1:=inv.rest d fun j hj hjl=>hd j hj (by
      by_cases h:i=j
      ·subst h;simp[inv.lsize,hlt]
      ·rw[getD_set_ne false h];exact hjl)
     cases hod:o.dst with
     | none=>exact h1
     | some e =>
      rw[put_tmps,if_neg (fun h2=>hd i hlt (by simp[inv.lsize,hlt]) (by rw[hdo,hod,h2]))]
      exact h1
 refine wp_region_any hm ?_
 refine key _ _ _ _ (fun _=>undef) ⟨rfl,rfl,fun i _ h=>?_,fun _ _=>rfl,by simp[hs.size],?_⟩ ?_
 ·rw[getD_replicate_false] at h;cases h
 ·have:=h0 (fun _=>undef)
  rw[← hs.size] at this
  exact⟨this,fun k j h=>by rw[getD_replicate_false] at h;cases h⟩
 ·have hz:=hs.size
  have:((List.range N).filter fun i=>!(Array.replicate l.toArray.size false).getD i true)=List.range N:=by
   refine List.filter_eq_self.2 fun i hi=>?_
   have:=List.mem_range.1 hi
   have h5:i < l.length:=by rw[← hz] at this;simpa using this
   simp[h5]
  rw[this]
  simp[← hz]
/-- what the text says of a chain: lst: which operations hold the row; prv: whose row an operation takes over; tt: the last one -/
def chB (isr:Nat→Bool) (prv:Nat→Option Nat) (ds:Nat→List Nat) (N tt:Nat):Bool :=
 isr tt && decide (tt < N) && (List.range N).all (fun i=>(match prv i with
  | none=>!isr i || (List.range N).all (fun j=>!isr j || (prv j).isSome || j == i)
  | some p=>isr i && isr p && decide (p < N) && (ds i).contains p && (List.range N).all (fun j=>prv j != some p || j == i)) &&
  (!isr i || i == tt || (List.range N).any (fun j=>prv j == some i)))
structure ChB (isr:Nat→Bool) (prv:Nat→Option Nat) (ds:Nat→List Nat) (N tt:Nat):Prop where
 t:isr tt=true
 tN:tt < N
 row:∀ i,i < N→∀ p,prv i=some p→isr i=true∧isr p=true∧p < N∧p∈ds i
 one:∀ i,i < N→∀ p,prv i=some p→∀ j,j < N→prv j=some p→j=i
 st:∀ i,i < N→prv i=none→isr i=true→∀ j,j < N→prv j=none→isr j=true→j=i
 last:∀ i,i < N→isr i=true→i=tt ∨ ∃ j,j < N∧prv j=some i
theorem ChB.of {isr:Nat→Bool} {prv:Nat→Option Nat} {ds:Nat→List Nat} {N tt:Nat} (h:chB isr prv ds N tt=true):ChB isr prv ds N tt:=by
 unfold chB at h
 rw[Bool.and_eq_true,Bool.and_eq_true] at h
 obtain⟨⟨h1,h2⟩,h3⟩:=h
 have key:∀ i,i < N→_:=fun i hi=>List.all_eq_true.1 h3 i (List.mem_range.2 hi)
 refine⟨h1,of_decide_eq_true h2,fun i hi p hp=>?_,fun i hi p hp j hj hjp=>?_,fun i hi hp hr j hj hjp hjr=>?_,fun i hi hr=>?_⟩
 ·have:=key i hi
  rw[hp] at this
  simp only[Bool.and_eq_true,decide_eq_true_eq,List.contains_eq_mem] at this
  exact⟨this.1.1.1.1.1,this.1.1.1.1.2,this.1.1.1.2,this.1.1.2⟩
 ·have:=key i hi
  rw[hp] at this
  simp only[Bool.and_eq_true] at this
  have h5:=List.all_eq_true.1 this.1.2 j (List.mem_range.2 hj)
  rw[hjp] at h5
  simpa using h5
 ·have:=key i hi
  rw[hp] at this
  simp only[hr,Bool.and_eq_true,Bool.not_true,Bool.false_or] at this
  have h5:=List.all_eq_true.1 this.1 j (List.mem_range.2 hj)
  rw[hjp,hjr] at h5
  simpa using h5
 ·have:=key i hi
  rw[Bool.and_eq_true] at this
  have h5:=this.2
  rw[hr] at h5
  simp only[Bool.not_true,Bool.false_or,Bool.or_eq_true,beq_iff_eq,List.any_eq_true,List.mem_range] at h5
  exact h5
def Sub (V0:Value) (W:World) (v:Value):Prop:=∀ q,v.ownBlock=some q→V0.ownBlock=some q ∨ W.heap.size≤q
/-- what holds while a chain runs -/
structure ChI (W:World) (e:TypeId) (B N:Nat) (V0:Value) (isr:Nat→Bool) (lst:Nat→List Value) (prv:Nat→Option Nat) (vals:Nat→Value) (L:Array Bool) (vs:Nat→Value) (w:World):Prop where
 k:Kp (fun k=>V0.ownBlock=some k) W w
 v:∀ i,i < N→isr i=false→L.getD i false=true→vs i=vals i
 s:((∀ i,i < N→isr i=true→L.getD i false=false)∧∀ i,i < N→isr i=true→prv i=none→w.ownsRow B e 1 V0 (lst i).length (lst i)) ∨
  ∃ k,k < N∧isr k=true∧L.getD k false=true∧w.ownsRow B e 1 (vs k) (lst k).length (lst k)∧Sub V0 W (vs k)∧(∀ j,j < N→prv j=some k→L.getD j false=false)∧(∀ j,j < N→isr j=true→L.getD j false=true→j=k ∨ ∃ i,i < N∧prv i=some j∧L.getD i false=true)∧∀ j,j < N→isr j=true→prv j=none→L.getD j false=true
theorem getD_setN {L:Array Bool} {N i:Nat} (hl:L.size=N) (hi:i < N):(L.setIfInBounds i true).getD i false=true:=by simp[hl,hi]
theorem und' {L:Array Bool} {i:Nat} (h:L.getD i true=false):L.getD i false=false:=by
 cases hh:L.getD i false with
 | false=>rfl
 | true =>
  by_cases hl:i < L.size
  ·rw[getD_both' hl hh] at h;cases h
  ·simp[Array.getD,hl] at h
theorem wp_chain {P:Program} {id:Nat} {a0:Act} {W:World} {l:List Oper} {Q:Exit→Act→World→Prop} (N tt:Nat) (ds:Nat→List Nat) (e:TypeId) (B:Nat) (V0:Value) (isr:Nat→Bool) (lst:Nat→List Value) (prv:Nat→Option Nat) (vals:Nat→Value) (hm:P.follows .mixedOrders=true) (hBB:sepJ l.toArray N ds=true)
  (hN:(List.range N).all (fun i=>match dstOf l.toArray i with | some d=>decide (d < a0.tmps.size) | none=>true)=true) (hC:chB isr prv ds N tt=true)
  (h0:∀ i,i < N→isr i=true→prv i=none→W.ownsRow B e 1 V0 (lst i).length (lst i))
  (hpure:∀ i,i < N→∀ o,l[i]?=some o→isr i=false→∀ vs w,Kp (fun k=>V0.ownBlock=some k) W w→(∀ j∈ds i,isr j=false→vs j=vals j)→(execOp (frm l.toArray a0 vs (ds i)).eval o).run P w=.ok (.value (vals i)) w)
  (hst:∀ i,i < N→∀ o,l[i]?=some o→isr i=true→prv i=none→∀ vs w,(execOp (frm l.toArray a0 vs (ds i)).eval o).run P w=.ok (.value V0) w)
  (hcall:∀ i,i < N→∀ o,l[i]?=some o→∀ p,prv i=some p→∀ vs w,Kp (fun k=>V0.ownBlock=some k) W w→(∀ j∈ds i,isr j=false→vs j=vals j)→w.ownsRow B e 1 (vs p) (lst p).length (lst p)→Sub V0 W (vs p) →
   Made P (fun v w'=>w'.ownsRow B e 1 v (lst i).length (lst i)∧Kp (fun k=>(vs p).ownBlock=some k) w w'∧∀ q,v.ownBlock=some q→(vs p).ownBlock=some q ∨ w.heap.size≤q) ((execOp (frm l.toArray a0 vs (ds i)).eval o).run P w))
  (hend:∀ vs w,Kp (fun k=>V0.ownBlock=some k) W w→(∀ i,i < N→isr i=false→vs i=vals i)→w.ownsRow B e 1 (vs tt) (lst tt).length (lst tt)→Sub V0 W (vs tt)→wpList P l.toArray Q [] (frm l.toArray a0 vs (List.range N)) w) :
  (Code.region id l.toArray true).wp P Q a0 W:=by
 have hs:=SepJ.of hBB
 have hc:=ChB.of hC
 have hdN:∀ i,i < N→∀ j∈ds i,j < N:=fun i hi j hj=>by
  have hw:=hs.dep i hi j hj
  have hoi:∃ o,l.toArray[i]?=some o:=⟨l.toArray[i]'(by rw[hs.size];exact hi),Array.getElem?_eq_getElem _⟩
  obtain⟨o,ho⟩:=hoi
  unfold waits at hw
  rw[ho] at hw
  obtain⟨e,he,hb⟩:=Array.any_eq_true'.1 hw
  simp only[Bool.and_eq_true,beq_iff_eq] at hb
  have:=hs.back i hi o ho e he hb.1
  omega
 refine wp_region_invD N ds (ChI W e B N V0 isr lst prv vals) hm hBB hN (fun vs=>?_) ?_ ?_
 ·exact⟨⟨rfl,rfl,rfl,Nat.le_refl _,fun _ _ _=>rfl⟩,(fun i _ _ h=>by rw[getD_replicate_false] at h;cases h),.inl ⟨fun i _ _=>getD_replicate_false ..,fun i hi hr hp=>h0 i hi hr hp⟩⟩
 ·intro i hi o ho L vs w hls hun hwt hcl hI
  have hun':=und' hun
  have hvd:∀ j∈ds i,isr j=false→vs j=vals j:=fun j hj hr=>hI.v j (hdN i hi j hj) hr (hwt j (hs.dep i hi j hj))
  have hvk:∀ (v:Value),(isr i=false→v=vals i)→∀ j,j < N→isr j=false→(L.setIfInBounds i true).getD j false=true→(if j=i then v else vs j)=vals j:=fun v hv j hj hr hl=>by
   by_cases e:j=i
   ·subst e
    rw[if_pos rfl]
    exact hv hr
   ·rw[if_neg e]
    rw[getD_set_ne false (fun h=>e h.symm)] at hl
    exact hI.v j hj hr hl
  cases hr:isr i with
  | false =>
   rw[hpure i hi o ho hr vs w hI.k hvd]
   refine made_ok ⟨hI.k,hvk _ fun _=>rfl,?_⟩
   rcases hI.s with ⟨h1,h2⟩ | ⟨k,hk,hkr,hkl,hrow,hsub,hcon,hoth,hsta⟩
   ·refine .inl ⟨fun j hj hjr=>?_,h2⟩
    rw[getD_set_ne false (fun h=>by rw[h] at hr;rw[hr] at hjr;cases hjr)]
    exact h1 j hj hjr
   ·have hki:k≠i:=fun h=>by rw[h] at hkr;rw[hr] at hkr;cases hkr
    refine .inr ⟨k,hk,hkr,by rw[getD_set_ne false (fun h=>hki h.symm)];exact hkl,by rw[if_neg hki];exact hrow,by rw[if_neg hki];exact hsub,fun j hj hjp=>?_,fun j hj hjr hjl=>?_,fun j hj hjr hjp=>?_⟩
    ·rw[getD_set_ne false (fun h=>by have:=(hc.row j hj k hjp).1;rw[← h,hr] at this;cases this)]
     exact hcon j hj hjp
    ·rw[getD_set_ne false (fun h=>by rw[← h,hr] at hjr;cases hjr)] at hjl
     rcases hoth j hj hjr hjl with h | ⟨q,h1,h2,h3⟩
     ·exact .inl h
     ·refine .inr ⟨q,h1,h2,?_⟩
      rw[getD_set_ne false (fun h=>by have:=(hc.row q h1 j h2).1;rw[← h,hr] at this;cases this)]
      exact h3
    ·rw[getD_set_ne false (fun h=>by rw[← h,hr] at hjr;cases hjr)]
     exact hsta j hj hjr hjp
  | true =>
   cases hp:prv i with
   | none =>
    rw[hst i hi o ho hr hp vs w]
    refine made_ok ⟨hI.k,hvk _ fun h=>(by rw[hr] at h;cases h),?_⟩
    rcases hI.s with ⟨h1,h2⟩ | ⟨k,hk,hkr,hkl,hrow,hsub,hcon,hoth,hsta⟩
    ·refine .inr ⟨i,hi,hr,getD_setN hls hi,by rw[if_pos rfl];exact h2 i hi hr hp,by rw[if_pos rfl];exact fun q hq=>.inl hq,fun j hj hjp=>?_,fun j hj hjr hjl=>?_,fun j hj hjr hjp=>?_⟩
     ·have hji:j≠i:=fun h=>by rw[h,hp] at hjp;cases hjp
      rw[getD_set_ne false (fun h=>hji h.symm)]
      exact h1 j hj (hc.row j hj i hjp).1
     ·by_cases hji:j=i
      ·exact .inl hji
      ·rw[getD_set_ne false (fun h=>hji h.symm),h1 j hj hjr] at hjl
       cases hjl
     ·rw[hc.st i hi hp hr j hj hjp hjr]
      exact getD_setN hls hi
    ·rw[hsta i hi hr hp] at hun'
     cases hun'
   | some p =>
    obtain⟨_,hpr,hpN,hpd⟩:=hc.row i hi p hp
    have hpl:=hwt p (hs.dep i hi p hpd)
    rcases hI.s with ⟨h1,h2⟩ | ⟨k,hk,hkr,hkl,hrow,hsub,hcon,hoth,hsta⟩
    ·rw[h1 p hpN hpr] at hpl
     cases hpl
    ·have hpk:p=k:=by
      rcases hoth p hpN hpr hpl with h | ⟨q,h1,h2,h3⟩
      ·exact h
      ·rw[hc.one i hi p hp q h1 h2,hun'] at h3
       cases h3
     subst hpk
     refine(hcall i hi o ho p hp vs w hI.k hvd hrow hsub).mono fun v w' ⟨g1,g2,g3⟩=>?_
     have hkp:Kp (fun k=>V0.ownBlock=some k) W w':=hI.k.trans g2 fun k hk h=>(hsub k h).resolve_right (by omega)
     refine⟨hkp,hvk _ fun h=>(by rw[hr] at h;cases h),.inr ⟨i,hi,hr,getD_setN hls hi,by rw[if_pos rfl];exact g1,?_,fun j hj hjp=>?_,fun j hj hjr hjl=>?_,fun j hj hjr hjp=>?_⟩⟩
     ·rw[if_pos rfl]
      intro q hq
      rcases g3 q hq with h | h
      ·exact hsub q h
      ·exact .inr (Nat.le_trans hI.k.size h)
     ·have hji:j≠i:=fun h=>by
       rw[h,hp] at hjp
       have:=Option.some.inj hjp
       have h2:=hs.dep i hi p hpd
       rw[this] at h2
       have h3:=hwt i h2
       rw[hun'] at h3
       cases h3
      rw[getD_set_ne false (fun h=>hji h.symm)]
      cases hjl:L.getD j false with
      | false=>rfl
      | true =>
       have h4:=hcl j i hjl (hs.dep j hj i (hc.row j hj i hjp).2.2.2)
       rw[hun'] at h4
       cases h4
     ·by_cases hji:j=i
      ·exact .inl hji
      ·rw[getD_set_ne false (fun h=>hji h.symm)] at hjl
       rcases hoth j hj hjr hjl with h | ⟨q,h1,h2,h3⟩
       ·exact .inr ⟨i,hi,by rw[h];exact hp,getD_setN hls hi⟩
       ·refine .inr ⟨q,h1,h2,?_⟩
        by_cases hqi:q=i
        ·rw[hqi];exact getD_setN hls hi
        ·rw[getD_set_ne false (fun h=>hqi h.symm)];exact h3
     ·have hji:j≠i:=fun h=>by rw[h,hp] at hjp;cases hjp
      rw[getD_set_ne false (fun h=>hji h.symm)]
      exact hsta j hj hjr hjp
 ·intro L vs w hls hall hI
  rcases hI.s with ⟨h1,_⟩ | ⟨k,hk,hkr,hkl,hrow,hsub,hcon,_,_⟩
  ·have:=hall tt hc.tN
   rw[h1 tt hc.tN hc.t] at this
   cases this
  ·have hkt:k=tt:=by
    rcases hc.last k hk hkr with h | ⟨j,h1,h2⟩
    ·exact h
    ·have:=hcon j h1 h2
     rw[hall j h1] at this
     cases this
   subst hkt
   exact hend vs w hI.k (fun i hi hr=>hI.v i hi hr (hall i hi)) hrow hsub
end
section
open Go.RowKit
attribute [local go_sem] Oper.semAt_some
theorem conv_txt {w:World} {A:Option Addr} {b:List Int} {N c:Nat} (hs:Sl w 1 A b.length (byts b)) (hA:∀ x,A=some x→x.spot=none) (hN:N≤b.length):(convert 29 9 (.slice A N c)).run Tryd.prog w=.ok (.string (txt (b.take N))) w:=by
 cases A with
 | none =>
  have h0:b.length=0:=by
   rcases hs.2 with h | ⟨_,_,e,_⟩
   ·exact h
   ·cases e
  rw[run_convert_bytes_nil w _ 5 Tryd.underlying29 Tryd.underlying5 N c _ Tryd.underlying9,show b=[] from List.length_eq_zero_iff.1 h0]
  rw[List.take_nil]
  rfl
 | some x =>
  obtain⟨bb,o,sp⟩:=x
  have hsp:=hA _ rfl
  dsimp only at hsp
  subst hsp
  have h:=run_convert_bytes_arg (P:=Tryd.prog) w 29 5 Tryd.underlying29 Tryd.underlying5 bb o N c (b.take N) (by rw[List.length_take];omega) (fun i hi=>by
   rcases hs.2 with h0 | ⟨b',o',e,_,hc⟩
   ·omega
   ·cases e
    have hx:b[i]?=some (b[i]'(by omega)):=List.getElem?_eq_getElem _
    rw[hc i _ (by unfold byts;rw[List.getElem?_map,hx];rfl)]
    simp[List.getD,List.getElem?_take,hi,hx]) _ Tryd.underlying9
  rw[h]
  rfl
section
variable {w:World} {g bb p q s c N:Nat} {A:Option Addr} {b:List Int} {n:Int}
end
end
section
open Go.RowKit
attribute [local go_sem] Oper.semAt_some
theorem byts_bts (s:ByteArray):byts (bts s)=Lib.byteCells s.data.toList:=by unfold byts bts Lib.byteCells;rw[List.map_map];rfl
def GrP (g L n:Nat) (cur:Array Value) (w:World) (e:Ending) (w':World):Prop:=∃ g2 cap2 cur2,e=.returned (.slice (some ⟨g2,0,none⟩) L cap2)∧Bk w' g2 5 cur2∧L+n≤cap2∧cap2≤maxLen∧cur2.size=cap2∧cur2.toList.take L=cur.toList.take L∧(g2=g ∨ g2=w.heap.size)∧Below w.heap.size w w'
theorem Grow_any {w:World} {g L n cap:Nat} {cur:Array Value} (hg:Bk w g 5 cur) (hL:L≤cap) (hcm:cap≤maxLen) (hcs:cur.size=cap) (hn:L+n≤70368744177664):Calls Tryd.prog 47 #[.slice (some ⟨g,0,none⟩) L cap,.int .i64 (n:Int)] w (GrP g L n cur w):=by
 have hcm':=hcm
 unfold maxLen at hcm'
 by_cases hr:L+n≤cap
 ·refine(Any8.slices_Grow_room Tryd.growB (some ⟨g,0,none⟩) L cap n w hL (by omega) (by omega) hr).mono ?_
  rintro e w' ⟨rfl,rfl⟩
  exact⟨g,cap,cur,rfl,hg,hr,hcm,hcs,rfl,.inl rfl,Below.refl _ _⟩
 ·obtain⟨i0,hi,hz0,hz1,hz2⟩:=info_parts i_u8
  have h:=Any8.slices_Grow_grow Tryd.growB i0 (.int .u8 0) hi hz0 (by rw[hz1];decide) (some ⟨g,0,none⟩) L cap n cur.toList w hL (by omega) (by rw[hz2];omega) (by omega) (by rw[hz1];simp[hcs]) (by simp) (fun a ha j v hv=>by
   cases ha
   have:=hg.cell j
   rw[show(⟨g,0,none⟩:Addr).add j=⟨g,j,none⟩ by simp[Addr.add];exact fun h=>h.symm,this]
   simpa using hv)
  refine h.mono ?_
  rintro e w' ⟨rfl,rfl⟩
  have hG:=grownCap_ge w (L+n) cap 5
  have hG2:=grownCap_le_maxLen w (L+n) cap 5 (by unfold maxLen;omega)
  refine⟨w.heap.size,grownCap w (L+n) cap 5,_,rfl,Bk.new _ _ _,hG,hG2,?_,?_,.inr rfl,(Below.drew (Below.refl _ _)).alloc (Nat.le_refl _) _⟩
  ·simp[size_zeroCells,hcs]
   have e1:(Value.int IntKind.u8 0).cells.size=1:=rfl
   have e2:Tryd.growB_ren.t 25=5:=rfl
   rw[e1,e2]
   omega
  ·simp only[Array.toList_append]
   rw[List.append_assoc,List.take_append_of_le_length (by simp;omega)]
section
variable {w:World} {B c:Nat} {A:Option Addr} {l:List Int}
set_option maxHeartbeats 4000000 in
theorem AppendString_any {s:ByteArray} (ho:w.ownsRow B 5 1 (.slice A l.length c) l.length (byts l)) (hB:B≤w.heap.size) (hs:s.size≤4294967296) (hl:l.length≤4294967296):Calls Tryd.prog 29 #[.slice A l.length c,.string s] w (ApP B w (.slice A l.length c) (l++encS s)):=by
 have cU:=AppendUint_any ho hB (n:=(s.size:Int)) ⟨by omega,by omega⟩ hl
 have hw0:IntKind.u64.wrap (s.size:Int)=(s.size:Int):=by rw[IntKind.wrap_u64];omega
 have HU:Hid ((l++encU (s.size:Int)).length≤4294967305∧0 < (l++encU (s.size:Int)).length):=lh (by
  have:=encU_len (n:=(s.size:Int)) (by omega)
  rw[List.length_append]
  refine⟨by omega,?_⟩
  unfold encU
  rw[List.length_cons]
  omega)
 obtain⟨l1,hl1⟩:∃ l1,l1=l++encU (s.size:Int):=⟨_,rfl⟩
 rw[← hl1] at cU HU
 have HL1:Hid (l++encS s=l1++bts s):=lh (by rw[hl1,List.append_assoc];rfl)
 clear ho hB hl hl1
 go_enter Tryd.func29,Tryd.ntmps29
 go_wp2_with fail
 refine cU.mono ?_
 rintro e w1 ⟨v1,rfl,ho1,hk1,hv1⟩
 obtain⟨hlen,⟨_,h0⟩ | ⟨g,cap,cur,rfl,hBg,hg,hnc,hcm,hcs,htk⟩⟩:=ho1
 ·have:=HU.out.2
  omega
 ·have hLb:=HU.out.1
  have cG:=Grow_any (w:=w1) (g:=g) (L:=l1.length) (n:=s.size) (cap:=cap) (cur:=cur) hg hnc hcm (by simpa using hcs) (by omega)
  rw[Nat.mul_one] at htk
  have H1:Hid (B≤g∧g < w1.heap.size∧cur.toList.take l1.length=byts l1∧Kp (fun k=>(Value.slice A l.length c).ownBlock=some k) w w1∧((Value.slice A l.length c).ownBlock=some g ∨ w.heap.size≤g)):=lh ⟨hBg,(Array.getElem?_eq_some_iff.1 hg).1,htk,hk1,hv1 g rfl⟩
  clear hlen hBg hg hcs htk hk1 hv1 cU
  go_wp2_with fail
  refine cG.mono ?_
  rintro e w2 ⟨g2,cap2,cur2,rfl,hg2,hroom,hcm2,hcs2,htk2,hor,hb2⟩
  have H2:Hid (B≤g2∧((Value.slice A l.length c).ownBlock=some g2 ∨ w.heap.size≤g2)∧cur2.toList.take l1.length=byts l1∧Kp (fun k=>(Value.slice A l.length c).ownBlock=some k) w w2):=lh (by
   have h:=H1.out
   refine⟨?_,?_,htk2.trans h.2.2.1,h.2.2.2.1.trans (Kp.of_below (S:=fun _=>False) hb2) fun k _ hk=>hk.elim⟩
   ·rcases hor with e | e <;> rw[e] <;> omega
   ·rcases hor with e | e
    ·rw[e];exact h.2.2.2.2
    ·right;rw[e];exact h.2.2.2.1.size)
  have HG2:=lh hg2
  have hcm2':=hcm2
  unfold maxLen at hcm2' hcm
  have hrow:w2.ownsRow B 5 1 (.slice (some ⟨g2,0,none⟩) l1.length cap2) l1.length (byts l1):=⟨by rw[byts_len,Nat.mul_one],.inr ⟨g2,cap2,cur2,rfl,H2.out.1,hg2,by omega,hcm2,by rw[hcs2,Nat.mul_one],by rw[Nat.mul_one];exact H2.out.2.2.1⟩⟩
  have HROW:=lh hrow
  clear cG H1 htk2 hor hb2 hrow
  by_cases hn:s.size=0
  ·have hcp:∀ (d:Option Addr) (dl dc:Nat) (w:World),(Builtin.copy_ #[29,9] 3 #[.slice d dl dc,.string s]).run Tryd.prog w=.ok (goInt 0) w:=fun d dl dc w=>Lib.run_copy_empty_string w _ _ _ 5 d dl dc s Tryd.underlying29 (by kernel_rfl) hn
   have HS:Hid (bts s=[]):=lh (List.length_eq_zero_iff.1 (by rw[bts_len];exact hn))
   have hsum:wrap64 ((l1.length:Int)+(s.size:Int))=(l1.length:Int):=by unfold wrap64;omega
   by_cases hc:l1.length=cap2
   ·subst hc
    go_wp2_with fail
    go_ret
    exact⟨_,rfl,by rw[HL1.out,HS.out,List.append_nil];exact HROW.out,H2.out.2.2.2,fun k hk=>by cases hk;exact H2.out.2.1⟩
   ·have hlt:l1.length < cap2:=by omega
    go_wp2_with fail
    go_ret
    exact⟨_,rfl,by rw[HL1.out,HS.out,List.append_nil];exact HROW.out,H2.out.2.2.2,fun k hk=>by cases hk;exact H2.out.2.1⟩
  ·have hcp:∀ dc,(Builtin.copy_ #[29,9] 3 #[.slice (some ⟨g2,l1.length,none⟩) s.size dc,.string s]).run Tryd.prog w2=.ok (goInt s.size) (w2.setRow g2 (cur2.toList.take l1.length++Lib.byteCells s.data.toList++cur2.toList.drop (l1.length+s.size)).toArray):=fun dc=>Lib.run_copy_row_string w2 _ _ _ 5 g2 l1.length s.size dc s cur2 5 Tryd.underlying29 (by kernel_rfl) hg2 (Nat.le_refl _) (by omega)
   have hlt:l1.length < cap2:=by omega
   have hc:¬ l1.length=cap2:=by omega
   clear hg2
   go_wp2_with fail
   go_ret
   refine⟨.slice (some ⟨g2,0,none⟩) (l1.length+s.size) cap2,rfl,?_,?_,fun k hk=>by cases hk;exact H2.out.2.1⟩
   ·rw[HL1.out,byts_app,byts_bts,List.length_append,bts_len]
    refine⟨by rw[List.length_append,byts_len,Lib.byteCells_length,← Lib.size_eq,Nat.mul_one],.inr ⟨g2,cap2,_,rfl,H2.out.1,setRow_heap _ _ _ _ _ _ HG2.out,hroom,hcm2,?_,?_⟩⟩
    ·simp[Lib.byteCells_length,← Lib.size_eq]
     omega
    ·rw[Nat.mul_one,← H2.out.2.2.1]
     have e:(l1.length+s.size)=(cur2.toList.take l1.length++Lib.byteCells s.data.toList).length:=by simp[Lib.byteCells_length,← Lib.size_eq];omega
     conv=>lhs;rw[e]
     show List.take _ (_++(_++_))=_
     rw[← List.append_assoc,List.take_left]
   ·refine H2.out.2.2.2.trans (T:=fun k=>k=g2) ⟨rfl,rfl,rfl,by simp,fun k _ hk=>setRow_other _ _ _ _ hk⟩ fun k hk e=>?_
    rcases H2.out.2.1 with h | h
    ·rw[e];exact h
    ·omega
end
end
section
open Go.RowKit
def targetsI (n a b at':Int):List Int:=if validB n a b && n != 25 then (if n=18 then [a] else if n=19 ∨ n=20 then [at'+1,a] else [at'+1]) else []
end
end Go.Proofs.YtmbnlccafcfbeaaDoor
