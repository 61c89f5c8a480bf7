/- Parts of the proof: SepD, Wire8. -/
import Derived.Laws.BytesArg
import Derived.Test.YtmbnlccafcfbeaaGreatDoorPfA
import Derived.Test.YtmbnlccafcfbeaaGreatDoorPf0
import Derived.Test.YtmbnlccafcfbeaaGreatDoorPf1
set_option linter.unusedVariables false
set_option linter.unusedSimpArgs false
set_option linter.unusedSectionVars false
set_option maxRecDepth 100000
set_option maxHeartbeats 64000000
namespace Go.Proofs.YtmbnlccafcfbeaaGreatDoor
section
open Go.RowKit
/-- what can be read off the region's text -/
def sepJ (ops:Array Oper) (N:Nat) (ds:Nat→List Nat):Bool :=
 decide (ops.size=N) && Region.noSelect ops &&
 (List.range N).all (fun i=>((ops[i]?).map (fun o=>o.guard.isNone)).getD true && (ds i).all (qf0 ops i) &&
  (List.range N).all (fun j=>((qb9 ops i).isNone || qb9 ops i != qb9 ops j || i == j) &&
   ((ops[i]?).map fun o=>o.op.operands.all fun x=>match x with | .tmp t=>qb9 ops j != some t || (ds i).contains j || qf0 ops j i | _=>true).getD true) &&
  ((ops[i]?).map fun o=>o.after.all fun e=>!Region.binds .any e || decide (e.on < i)).getD true)
structure SepJ (ops:Array Oper) (N:Nat) (ds:Nat→List Nat):Prop where
 size:ops.size=N
 sel:Region.noSelect ops=true
 bare:∀ i,i < N→∀ o,ops[i]?=some o→o.guard=none
 back:∀ i,i < N→∀ o,ops[i]?=some o→∀ e∈o.after,Region.binds .any e=true→e.on < i
 dep:∀ i,i < N→∀ j∈ds i,qf0 ops i j=true
 opnd:∀ i,i < N→∀ o,ops[i]?=some o→∀ t,.tmp t∈o.op.operands→∀ j,j < N→qb9 ops j=some t→j∈ds i ∨ qf0 ops j i=true
 dist:∀ i,i < N→∀ j,j < N→∀ d,qb9 ops i=some d→qb9 ops j=some d→i=j
theorem SepJ.of {ops:Array Oper} {N:Nat} {ds:Nat→List Nat} (h:sepJ ops N ds=true):SepJ ops N ds:=by
 unfold sepJ at h;rw[Bool.and_eq_true,Bool.and_eq_true] at h;obtain⟨⟨h1,h2⟩,h3⟩:=h;have h1:=of_decide_eq_true h1
 have key:∀ i,i < N→((((ops[i]?).map (fun o=>o.guard.isNone)).getD true=true∧(ds i).all (qf0 ops i)=true)∧(List.range N).all (fun j=>((qb9 ops i).isNone || qb9 ops i != qb9 ops j || i == j) && ((ops[i]?).map fun o=>o.op.operands.all fun x=>match x with | .tmp t=>qb9 ops j != some t || (ds i).contains j || qf0 ops j i | _=>true).getD true)=true)∧((ops[i]?).map fun o=>o.after.all fun e=>!Region.binds .any e || decide (e.on < i)).getD true=true:=fun i hi=>by
  have:=List.all_eq_true.1 h3 i (List.mem_range.2 hi);rw[Bool.and_eq_true,Bool.and_eq_true,Bool.and_eq_true] at this;exact this
 refine⟨h1,h2,fun i hi o ho=>?_,fun i hi o ho e he hb=>?_,fun i hi j hj=>?_,fun i hi o ho t ht j hj hd=>?_,fun i hi j hj d hdi hdj=>?_⟩
 ·have:=(key i hi).1.1.1;rw[ho] at this
  simpa using this
 ·have:=(key i hi).2;rw[ho] at this;simp only[Option.map_some,Option.getD_some] at this;have h5:=Array.all_eq_true'.1 this e he;rw[hb] at h5
  simpa using h5
 ·exact List.all_eq_true.1 (key i hi).1.1.2 j hj
 ·have h4:=List.all_eq_true.1 (key i hi).1.2 j (List.mem_range.2 hj);rw[Bool.and_eq_true] at h4;have h5:=h4.2;rw[ho] at h5;simp only[Option.map_some,Option.getD_some] at h5;have h6:=Array.all_eq_true'.1 h5 _ ht;simp only[hd] at h6
  simpa using h6
 ·have h4:=List.all_eq_true.1 (key i hi).1.2 j (List.mem_range.2 hj);rw[Bool.and_eq_true] at h4;have h5:=h4.1;rw[hdi,hdj] at h5
  simpa using h5
section
variable {P:Program} {ops:Array Oper} {N:Nat} {ds:Nat→List Nat} {a0:Act}
theorem qt3 (hs:SepJ ops N ds) (vs:Nat→Value):∀ l,(∀ i∈l,i < N)→∀ i∈l,∀ d,qb9 ops i=some d→d < a0.tmps.size→(frm ops a0 vs l).tmps[d]?=some (vs i)
 | [],_,i,h,_,_,_=>by cases h
 | k::l,hl,i,h,d,hd,hlt=>by
  unfold frm
  by_cases hk:qb9 ops k=some d
  ·have e:k=i:=hs.dist k (hl k (List.mem_cons_self ..)) i (hl i h) d hk hd;subst e;rw[hk,qm4,if_pos rfl,if_pos (by rw[frmI_size];exact hlt)]
  ·have hne:i≠k:=fun e=>hk (e ▸ hd);have hi:i∈l:=(List.mem_cons.1 h).resolve_left hne;have ih:=qt3 hs vs l (fun j hj=>hl j (List.mem_cons_of_mem _ hj)) i hi d hd hlt
   cases hkd:qb9 ops k with
   | none=>exact ih
   | some e =>
    rw[qm4,if_neg (fun h=>hk (by rw[hkd,h]))];exact ih
end
theorem clo_set {ops:Array Oper} {L:Array Bool} {N i:Nat} (hc:Clo ops L) (hwt:∀ j,qf0 ops i j=true→L.getD j false=true) (hl:L.size=N) (hi:i < N):Clo ops (L.setIfInBounds i true):=fun k j hk hj=>by
 by_cases hki:i=k
 ·subst hki;exact done_set (hwt j hj)
 ·rw[getD_set_ne false hki] at hk;exact done_set (hc k j hk hj)
theorem qf4 {P:Program} {id:Nat} {a0:Act} {W:World} {l:List Oper} {Q:Exit→Act→World→Prop} (N:Nat) (ds:Nat→List Nat) (I:Array Bool→(Nat→Value)→World→Prop) (hm:P.follows .mixedOrders=true) (hBB:sepJ l.toArray N ds=true)
  (hN:(List.range N).all (fun i=>match qb9 l.toArray i with | some d=>decide (d < a0.tmps.size) | none=>true)=true)
  (h0:∀ vs,I (Array.replicate N false) vs W.drew)
  (hstep:∀ i,i < N→∀ o,l[i]?=some o→∀ (L:Array Bool) vs w,L.size=N→L.getD i true=false→(∀ j,qf0 l.toArray i j=true→L.getD j false=true)→Clo l.toArray L→I L vs w →
   Made P (fun v w'=>I (L.setIfInBounds i true) (fun j=>if j=i then v else vs j) w') ((execOp (frm l.toArray a0 vs (ds i)).eval o).run P w))
  (hend:∀ (L:Array Bool) vs w,L.size=N→(∀ j,j < N→L.getD j false=true)→I L vs w→wpList P l.toArray Q [] (frm l.toArray a0 vs (List.range N)) w) :
  (Code.region id l.toArray true).wp P Q a0 W:=by
 have hs:=SepJ.of hBB
 have hN':∀ i,i < N→∀ d,qb9 l.toArray i=some d→d < a0.tmps.size:=fun i hi d hd=>by
  have:=List.all_eq_true.1 hN i (List.mem_range.2 hi);rw[hd] at this
  simpa using this
 have key:∀ (f:Nat) (L:Array Bool) (a:Act) (w:World) (vs:Nat→Value),FInv l.toArray N (fun L vs w=>I L vs w∧Clo l.toArray L) a0 vs L a w→((List.range N).filter fun i=>!L.getD i true).length=f→wpAny P .any l.toArray Q f L a w:=by
  intro f
  induction f with
  | zero =>
   intro L a w vs inv hf
   have hall:∀ j,j < N→L.getD j false=true:=fun j hj=>by
    cases h1:L.getD j false with
    | true=>rfl
    | false =>
     have h2:L.getD j true=false:=getD_in (by rw[inv.lsize];omega) h1;have:j∈(List.range N).filter fun i=>!L.getD i true:=List.mem_filter.2 ⟨List.mem_range.2 (by omega),by rw[h2];rfl⟩;rw[List.length_eq_zero_iff.1 hf] at this;cases this
   have hae:a=frm l.toArray a0 vs (List.range N):=by
    have h1:a.tmps=(frm l.toArray a0 vs (List.range N)).tmps:=by
     refine Array.ext_getElem? fun d=>?_
     by_cases h:∃ j,j < N∧qb9 l.toArray j=some d
     ·obtain⟨j,hj,hjd⟩:=h;rw[qt3 hs vs (List.range N) (fun k hk=>List.mem_range.1 hk) j (List.mem_range.2 hj) d hjd (hN' j hj d hjd),inv.slot j hj (hall j hj) d hjd (hN' j hj d hjd)]
     ·rw[qo1 vs (List.range N) d fun j hj hjd=>h ⟨j,List.mem_range.1 hj,hjd⟩,inv.rest d fun j hj _ hjd=>h ⟨j,hj,hjd⟩]
    have h2:a.defers=(frm l.toArray a0 vs (List.range N)).defers:=by rw[qt4,inv.defers]
    cases a;cases hq:frm l.toArray a0 vs (List.range N);rw[hq] at h1 h2;simp only at h1 h2;rw[h1,h2]
   refine⟨List.eq_nil_iff_forall_not_mem.2 fun j hj=>?_,?_⟩
   ·have h0:=(mem_ready.1 hj).1;have hlt:=qi8 hj;rw[qi3 hlt (hall j (by rw[inv.lsize] at hlt;omega))] at h0;cases h0
   ·rw[hae];exact hend L vs w inv.lsize hall inv.inv.1
  | succ f ih =>
   intro L a w vs inv hf;refine⟨fun h0=>?_,fun i hr=>?_⟩
   ·exfalso
    obtain⟨j,hj⟩:∃ j,j∈(List.range N).filter fun i=>!L.getD i true:=by
     cases hl:(List.range N).filter fun i=>!L.getD i true with
     | nil=>rw[hl] at hf;cases hf
     | cons j l=>exact⟨j,List.mem_cons_self ..⟩
    obtain⟨h1,h2⟩:=List.mem_filter.1 hj
    have hex:∀ m,∀ j,j < m→j < N→L.getD j true=false→∃ i,i∈Region.ready .any l.toArray L:=by
     intro m
     induction m with
     | zero=>intro j hj;omega
     | succ m ih2 =>
      intro j hj hjN hu
      by_cases hrd:j∈Region.ready .any l.toArray L
      ·exact⟨j,hrd⟩
      ·have hoj:∃ o,l.toArray[j]?=some o:=⟨l.toArray[j]'(by rw[hs.size];exact hjN),Array.getElem?_eq_getElem _⟩
       obtain⟨o,ho⟩:=hoj;have:¬ ∀ e∈o.after,Region.binds .any e=true→L.getD e.on false=true:=fun hall=>hrd (mem_ready.2 ⟨hu,o,ho,hall⟩);obtain⟨e,hne⟩:=Classical.not_forall.1 this;obtain⟨he,hne⟩:=Classical.not_forall.1 hne;obtain⟨hb,hne⟩:=Classical.not_forall.1 hne;have hlt:=hs.back j hjN o ho e he hb;exact ih2 e.on (by omega) (by omega) (getD_in (by rw[inv.lsize];omega) (by simpa using hne))
    obtain⟨i,hi⟩:=hex (j+1) j (by omega) (List.mem_range.1 h1) (by simpa using h2);rw[h0] at hi;cases hi
   ·have hcnt:=count_step inv.lsize hr hf;have hlt:=qi8 hr;rw[inv.lsize] at hlt;obtain⟨hun,o,ho,hall⟩:=mem_ready.1 hr;have hol:l[i]?=some o:=by simpa using ho
    have hg:o.guard=none:=hs.bare i hlt o ho;unfold wpOp;rw[ho];simp only[];rw[if_pos (by simp[Region.wanted,hg])];refine .inl ?_;have hdo:qb9 l.toArray i=o.dst:=by unfold qb9;rw[ho];rfl
    have hsel:=Region.noSelect_spec hs.sel;have hwt:∀ j,qf0 l.toArray i j=true→L.getD j false=true:=fun j hj=>qd9 hr hj
    have hdlt:∀ j∈ds i,j < N:=fun j hj=>by
     have hw:=hs.dep i hlt j hj;unfold qf0 at hw;rw[ho] at hw;obtain⟨e,he,hb⟩:=Array.any_eq_true'.1 hw;simp only[Bool.and_eq_true,beq_iff_eq] at hb;have:=hs.back i hlt o ho e he hb.1
     omega
    have hdl:∀ j∈ds i,L.getD j false=true:=fun j hj=>hwt j (hs.dep i hlt j hj)
    have hex:execOp a.eval o=execOp (frm l.toArray a0 vs (ds i)).eval o:=execOp_congr o (fun cs b=>hsel i o cs b ho) (qr9 fun d hd=>by
     by_cases h:∃ j,j < N∧qb9 l.toArray j=some d
     ·obtain⟨j,hj,hjd⟩:=h;rcases hs.opnd i hlt o ho d hd j hj hjd with hm | hm
      ·rw[qt3 hs vs (ds i) hdlt j hm d hjd (hN' j hj d hjd),inv.slot j hj (hdl j hm) d hjd (hN' j hj d hjd)]
      ·have hnj:¬ L.getD j false=true:=fun h=>by
        have h1:=inv.inv.2 j i h hm;rw[qi3 (by rw[inv.lsize];exact hlt) h1] at hun;cases hun
       have hdd:∀ k,k < N→L.getD k false=true→qb9 l.toArray k≠some d:=fun k hk hkl hkd=>by
        have:=hs.dist k hk j hj d hkd hjd;subst this;exact hnj hkl
       rw[qo1 vs (ds i) d fun k hk=>hdd k (hdlt k hk) (hdl k hk),inv.rest d hdd]
     ·rw[qo1 vs (ds i) d fun j hj hjd=>h ⟨j,hdlt j hj,hjd⟩,inv.rest d fun j hj _ hjd=>h ⟨j,hj,hjd⟩])
    refine qp0 (T:=fun v w'=>I (L.setIfInBounds i true) (fun j=>if j=i then v else vs j) w'∧Clo l.toArray (L.setIfInBounds i true)) (by
     rw[hex]
     exact(hstep i hlt o hol L vs w inv.lsize hun hwt inv.inv.2 inv.inv.1).mono fun v w' h=>And.intro h (clo_set inv.inv.2 hwt inv.lsize hlt)) fun v w' hl=>?_
    have hget:∀ j,(L.setIfInBounds i true).getD j false=true→j=i ∨ L.getD j false=true:=fun j hj=>by
     by_cases h:i=j
     ·exact .inl h.symm
     ·rw[getD_set_ne false h] at hj;exact .inr hj
    refine ih _ _ _ (fun j=>if j=i then v else vs j) ⟨by rw[put_defers,inv.defers],by rw[put_size,inv.size],fun j hj hjl d hd hdl2=>?_,fun d hd=>?_,by simp[inv.lsize],hl⟩ hcnt
    ·by_cases hji:j=i
     ·subst hji;rw[← hdo,hd,qm4,if_pos rfl,if_pos (by rw[inv.size];exact hdl2),if_pos rfl]
     ·have hjl':=(hget j hjl).resolve_left hji;have h1:=inv.slot j hj hjl' d hd hdl2;rw[if_neg hji]
      cases hod:o.dst with
      | none=>exact h1
      | some e =>
       rw[qm4,if_neg (fun h2=>hji (hs.dist j hj i hlt d hd (by rw[hdo,hod,h2])))];exact h1
    ·have h1:=inv.rest d fun j hj hjl=>hd j hj (by
      by_cases h:i=j
      ·subst h;simp[inv.lsize,hlt]
      ·rw[getD_set_ne false h];exact hjl)
     cases hod:o.dst with
     | none=>exact h1
     | some e =>
      rw[qm4,if_neg (fun h2=>hd i hlt (by simp[inv.lsize,hlt]) (by rw[hdo,hod,h2]))];exact h1
 refine wp_region_any hm ?_;refine key _ _ _ _ (fun _=>undef) ⟨rfl,rfl,fun i _ h=>?_,fun _ _=>rfl,by simp[hs.size],?_⟩ ?_
 ·rw[getD_replicate_false] at h;cases h
 ·have:=h0 (fun _=>undef);rw[← hs.size] at this;exact⟨this,fun k j h=>by rw[getD_replicate_false] at h;cases h⟩
 ·have hz:=hs.size
  have:((List.range N).filter fun i=>!(Array.replicate l.toArray.size false).getD i true)=List.range N:=by
   refine List.filter_eq_self.2 fun i hi=>?_;have:=List.mem_range.1 hi;have h5:i < l.length:=by rw[← hz] at this;simpa using this
   simp[h5]
  rw[this]
  simp[← hz]
/-- what the text says of a chain: lst: which operations hold the row; prv: whose row an operation takes over; tt: the last one -/
def chB (isr:Nat→Bool) (prv:Nat→Option Nat) (ds:Nat→List Nat) (N tt:Nat):Bool :=
 isr tt && decide (tt < N) && (List.range N).all (fun i=>(match prv i with
  | none=>!isr i || (List.range N).all (fun j=>!isr j || (prv j).isSome || j == i)
  | some p=>isr i && isr p && decide (p < N) && (ds i).contains p && (List.range N).all (fun j=>prv j != some p || j == i)) &&
  (!isr i || i == tt || (List.range N).any (fun j=>prv j == some i)))
structure ChB (isr:Nat→Bool) (prv:Nat→Option Nat) (ds:Nat→List Nat) (N tt:Nat):Prop where
 t:isr tt=true
 tN:tt < N
 row:∀ i,i < N→∀ p,prv i=some p→isr i=true∧isr p=true∧p < N∧p∈ds i
 one:∀ i,i < N→∀ p,prv i=some p→∀ j,j < N→prv j=some p→j=i
 st:∀ i,i < N→prv i=none→isr i=true→∀ j,j < N→prv j=none→isr j=true→j=i
 last:∀ i,i < N→isr i=true→i=tt ∨ ∃ j,j < N∧prv j=some i
theorem ChB.of {isr:Nat→Bool} {prv:Nat→Option Nat} {ds:Nat→List Nat} {N tt:Nat} (h:chB isr prv ds N tt=true):ChB isr prv ds N tt:=by
 unfold chB at h;rw[Bool.and_eq_true,Bool.and_eq_true] at h;obtain⟨⟨h1,h2⟩,h3⟩:=h;have key:∀ i,i < N→_:=fun i hi=>List.all_eq_true.1 h3 i (List.mem_range.2 hi);refine⟨h1,of_decide_eq_true h2,fun i hi p hp=>?_,fun i hi p hp j hj hjp=>?_,fun i hi hp hr j hj hjp hjr=>?_,fun i hi hr=>?_⟩
 ·have:=key i hi;rw[hp] at this;simp only[Bool.and_eq_true,decide_eq_true_eq,List.contains_eq_mem] at this;exact⟨this.1.1.1.1.1,this.1.1.1.1.2,this.1.1.1.2,this.1.1.2⟩
 ·have:=key i hi;rw[hp] at this;simp only[Bool.and_eq_true] at this;have h5:=List.all_eq_true.1 this.1.2 j (List.mem_range.2 hj);rw[hjp] at h5
  simpa using h5
 ·have:=key i hi;rw[hp] at this;simp only[hr,Bool.and_eq_true,Bool.not_true,Bool.false_or] at this;have h5:=List.all_eq_true.1 this.1 j (List.mem_range.2 hj);rw[hjp,hjr] at h5
  simpa using h5
 ·have:=key i hi;rw[Bool.and_eq_true] at this;have h5:=this.2;rw[hr] at h5;simp only[Bool.not_true,Bool.false_or,Bool.or_eq_true,beq_iff_eq,List.any_eq_true,List.mem_range] at h5;exact h5
def Sub (V0:Value) (W:World) (v:Value):Prop:=∀ q,v.ownBlock=some q→V0.ownBlock=some q ∨ W.heap.size≤q
/-- what holds while a chain runs -/
structure ChI (W:World) (e:TypeId) (B N:Nat) (V0:Value) (isr:Nat→Bool) (lst:Nat→List Value) (prv:Nat→Option Nat) (vals:Nat→Value) (L:Array Bool) (vs:Nat→Value) (w:World):Prop where
 k:Kp (fun k=>V0.ownBlock=some k) W w
 v:∀ i,i < N→isr i=false→L.getD i false=true→vs i=vals i
 s:((∀ i,i < N→isr i=true→L.getD i false=false)∧∀ i,i < N→isr i=true→prv i=none→w.ownsRow B e 1 V0 (lst i).length (lst i)) ∨
  ∃ k,k < N∧isr k=true∧L.getD k false=true∧w.ownsRow B e 1 (vs k) (lst k).length (lst k)∧Sub V0 W (vs k)∧(∀ j,j < N→prv j=some k→L.getD j false=false)∧(∀ j,j < N→isr j=true→L.getD j false=true→j=k ∨ ∃ i,i < N∧prv i=some j∧L.getD i false=true)∧∀ j,j < N→isr j=true→prv j=none→L.getD j false=true
theorem getD_setN {L:Array Bool} {N i:Nat} (hl:L.size=N) (hi:i < N):(L.setIfInBounds i true).getD i false=true:=by simp[hl,hi]
theorem und' {L:Array Bool} {i:Nat} (h:L.getD i true=false):L.getD i false=false:=by
 cases hh:L.getD i false with
 | false=>rfl
 | true =>
  by_cases hl:i < L.size
  ·rw[qi3 hl hh] at h;cases h
  ·simp[Array.getD,hl] at h
end
section
open Go.RowKit
attribute [local go_sem] Oper.semAt_some
theorem qa8 {α:Type} {L:Array Bool} {i:Nat} (x y:α) (h:L.getD i false=false):stg L i x y=x:=by unfold stg;rw[if_neg (by rw[h];simp)]
theorem qb8 {α:Type} (p:α→Prop) {L:Array Bool} {i:Nat} {x y:α} (hx:p x) (hy:p y):p (stg L i x y):=by unfold stg;split;exact hy;exact hx
theorem qk7 (args:Array Value) (w:World):(callFunc 156 args).run Tryz.prog w=.ok (.enter 156 args) w:=by go_simp
theorem qt7 (args:Array Value) (w:World):(callFunc 160 args).run Tryz.prog w=.ok (.enter 160 args) w:=by go_simp
theorem conv_txt {w:World} {A:Option Addr} {b:List Int} {N c:Nat} (hs:Sl w 1 A b.length (qh2 b)) (hA:∀ x,A=some x→x.spot=none) (hN:N≤b.length):(convert 45 9 (.slice A N c)).run Tryz.prog w=.ok (.string (txt (b.take N))) w:=by
 cases A with
 | none =>
  have h0:b.length=0:=by
   rcases hs.2 with h | ⟨_,_,e,_⟩
   ·exact h
   ·cases e
  rw[run_convert_bytes_nil w _ 5 Tryz.underlying45 Tryz.underlying5 N c _ Tryz.underlying9,show b=[] from List.length_eq_zero_iff.1 h0];rw[List.take_nil]
  rfl
 | some x =>
  obtain⟨bb,o,sp⟩:=x;have hsp:=hA _ rfl;dsimp only at hsp;subst hsp
  have h:=run_convert_bytes_arg (P:=Tryz.prog) w 45 5 Tryz.underlying45 Tryz.underlying5 bb o N c (b.take N) (by rw[List.length_take];omega) (fun i hi=>by
   rcases hs.2 with h0 | ⟨b',o',e,_,hc⟩
   ·omega
   ·cases e;have hx:b[i]?=some (b[i]'(by omega)):=List.getElem?_eq_getElem _;rw[hc i _ (by unfold qh2;rw[List.getElem?_map,hx];rfl)]
    simp[List.getD,List.getElem?_take,hi,hx]) _ Tryz.underlying9
  rw[h]
  rfl
section
variable {w:World} {g bb p q s c N:Nat} {A:Option Addr} {b:List Int} {n:Int}
theorem String1_big (hq:Bk w q 22 #[uv n]) (hn:4096 < n):Calls Tryz.prog 156 #[pq q 0,pq p 0,pq s 0] w fun e w1=>e=.returned (iv 8)∧bw w w1:=by
 have q0:cl w q 0 (uv n):=hq.cell 0;clear hq
 go_enter Tryz.func156,Tryz.ntmps156
 go_wp2_with fail
 go_ret;exact⟨rfl,Below.refl _ _⟩
theorem String1_bad (h:RdR w g bb ⟨b,0⟩ A c) (hq:Bk w q 22 #[uv n]) (hp:Bk w p 79 #[pq g 0]) (hn:n≤4096) (hl:(b.length:Int) < n):Calls Tryz.prog 156 #[pq q 0,pq p 0,pq s 0] w fun e w1=>e=.returned (iv 11)∧bw w w1:=by
 have q0:cl w q 0 (uv n):=hq.cell 0;have p0:cl w p 0 (pq g 0):=hp.cell 0;have r0:cl w g 0 (.slice A b.length c):=h.bk.cell 0;have hw2:IntKind.u64.wrap (b.length:Int)=(b.length:Int):=by rw[IntKind.wrap_u64];omega
 have d2:decide (n > (b.length:Int))=true:=decide_eq_true (by omega);have HB:Hid (∀ k,bw w (w.drewN k)):=lh fun k=>qf5 (Below.refl _ _) k;clear hq hp h
 go_enter Tryz.func156,Tryz.ntmps156
 go_upto_region 3 with fail
 go_quiet (fail)
 go_wp2_with fail
 go_ret;exact⟨rfl,HB.o _⟩
theorem String1_ok (h:RdR w g bb ⟨b,0⟩ A c) (hq:Bk w q 22 #[uv (N:Int)]) (hp:Bk w p 79 #[pq g 0]) (hs:Bk w s 9 #[.string ⟨#[]⟩]) (hsb:s≠bb) (hn:N≤4096) (hl:N≤b.length):Calls Tryz.prog 156 #[pq q 0,pq p 0,pq s 0] w fun e w1=>e=.returned (iv 0)∧RdX w1 g bb ⟨b.drop N,0⟩∧(Bk w1 s 9 #[.string (txt (b.take N))]∧Kp (fun k=>k=g ∨ k=s) w w1):=by
 have hcm:=h.cm;have hcp:=h.cap;dsimp only at hcp;have q0:cl w q 0 (uv (N:Int)):=hq.cell 0;have p0:cl w p 0 (pq g 0):=hp.cell 0;have r0:cl w g 0 (.slice A b.length c):=h.bk.cell 0;have hw2:IntKind.u64.wrap (b.length:Int)=(b.length:Int):=by rw[IntKind.wrap_u64];omega
 have d1:decide ((N:Int) > 4096)=false:=decide_eq_false (by omega);have d2:decide ((N:Int) > (b.length:Int))=false:=decide_eq_false (by omega);have d3:decide (b.length < N)=false:=decide_eq_false (by omega)
 have HNE:Hid (g≠s∧p≠s∧q≠s∧p≠g∧q≠g):=lh (by
  have hb:=h.bk;unfold Bk at hs hp hq hb;refine⟨fun e=>?_,fun e=>?_,fun e=>?_,fun e=>?_,fun e=>?_⟩
  ·rw[e,hs] at hb;cases hb
  ·rw[e,hs] at hp;cases hp
  ·rw[e,hs] at hq;cases hq
  ·rw[e,hb] at hp;cases hp
  ·rw[e,hb] at hq;cases hq)
 have hsp:∀ x,A=some x→x.spot=none:=fun x hx=>by
  obtain⟨b',o',m'⟩:=x;exact(h.at_ b' o' m' hx).2
 have H:=lh h;have HQ:=lh (And.intro hq (And.intro hp hs));have HSP:=lh hsp;clear hq hp hs h hsp
 go_enter Tryz.func156,Tryz.ntmps156
 go_upto_region 3 with fail
 go_quiet (fail)
 obtain⟨W,hW⟩:∃ W,W=w.drewN nq:=⟨_,rfl⟩
 have HKW:Hid (Kp (fun _=>False) w W):=lh (by rw[hW];exact⟨rfl,rfl,rfl,Nat.le_refl _,fun _ _ _=>rfl⟩);rw[← hW];have HR:=lh (H.o.kp HKW.o (fun h=>h) (fun h=>h));have HQW:=lh (HQ.o.1.kp HKW.o (fun h=>h));have HPW:=lh (HQ.o.2.1.kp HKW.o (fun h=>h));have HSW:=lh (HQ.o.2.2.kp HKW.o (fun h=>h));have hq1:cl W q 0 (uv (N:Int)):=HQW.o.cell 0;clear hW q0 p0 r0
 go_upto_region 5 with fail
 have hcv:∀ W':World,(∀ x,A=some x→W'.heap[bb]?=W.heap[bb]?)→(convert 45 9 (.slice A N c)).run Tryz.prog W'=.ok (.string (txt (b.take N))) W':=fun W' hW'=>conv_txt (by
  refine⟨HR.o.sl.1,?_⟩;rcases HR.o.sl.2 with h0 | ⟨b',o',e,hbl,hc⟩
  ·exact .inl h0
  ·obtain⟨rfl,_⟩:=HR.o.at_ _ _ _ e;have he:=hW' _ e;refine .inr ⟨b',o',e,?_,fun j x hx=>(World.cell?_of_block (a:=⟨b',o'+j,none⟩) he).trans (hc j x hx)⟩;have h1:W.heap[b']?.isSome=true:=by simp[hbl]
   rw[← he] at h1
   simpa using h1) HSP.o hl
 have HCV:=lh hcv
 obtain⟨W1,hW1⟩:∃ W1,W1=W.drew.setCell ⟨s,0,none⟩ (.string (txt (b.take N))):=⟨_,rfl⟩
 have HW1:=lh hW1;have hg0:W.drew.cell? ⟨g,0,none⟩=some (.slice A b.length c):=HR.o.bk.cell 0;have hp0:W.drew.cell? ⟨p,0,none⟩=some (pq g 0):=HPW.o.cell 0;have hq0:W.drew.cell? ⟨q,0,none⟩=some (uv (N:Int)):=HQW.o.cell 0;have hs0:W.drew.cell? ⟨s,0,none⟩=some (.string ⟨#[]⟩):=HSW.o.cell 0;have hsf:W.drew.frozen? ⟨s,0,none⟩=false:=HSW.o.free 0;have hrb:Bk W.drew g 103 #[.slice A b.length c,iv 0]:=HR.o.bk;have hpb:Bk W.drew p 79 #[pq g 0]:=HPW.o;have hqb:Bk W.drew q 22 #[uv (N:Int)]:=HQW.o;have hsb':Bk W.drew s 9 #[.string ⟨#[]⟩]:=HSW.o;have hr1:=hrb.far (p:=⟨s,0,none⟩) HNE.o.1 (.string (txt (b.take N)));have hg1:W1.cell? ⟨g,0,none⟩=some (.slice A b.length c):=by rw[hW1];exact hr1.cell 0
 have hgf:W1.frozen? ⟨g,0,none⟩=false:=by rw[hW1];exact hr1.free 0
 have hp1:W1.cell? ⟨p,0,none⟩=some (pq g 0):=by rw[hW1];exact(hpb.far (p:=⟨s,0,none⟩) HNE.o.2.1 _).cell 0
 have hq1':W1.cell? ⟨q,0,none⟩=some (uv (N:Int)):=by rw[hW1];exact(hqb.far (p:=⟨s,0,none⟩) HNE.o.2.2.1 _).cell 0
 have HF:=lh (And.intro hg0 (And.intro hp0 (And.intro hq0 (And.intro hg1 (And.intro hp1 (And.intro hq1' (And.intro hs0 (And.intro hsf hgf))))))))
 have HB1:Hid (Bk W1 g 103 #[.slice A b.length c,iv 0]∧Bk W1 s 9 #[.string (txt (b.take N))]∧Kp (fun k=>k=s) w W1):=lh ⟨by rw[hW1];exact hr1,by rw[hW1];exact hsb'.set 0 _,by
  rw[hW1]
  exact(HKW.o.drew.mono (T:=fun k=>k=s) fun _ _ h=>h.elim).trans (Kp.setCell (S:=fun k=>k=s) _ ⟨s,0,none⟩ _ rfl) fun _ _ h=>h⟩
 have hcvW:∀ W',W'=stg (Array.replicate 1 false) 0 W.drew W1 ∨ W'=W1 ∨ W'=W.drew→(convert 45 9 (.slice A N c)).run Tryz.prog W'=.ok (.string (txt (b.take N))) W':=fun W' hW'=>by
  have h0:W'=W1 ∨ W'=W.drew:=by
   rcases hW' with h | h
   ·exact .inr h
   ·exact h
  refine HCV.o W' fun x hx=>?_;obtain⟨b',o',m'⟩:=x;rcases h0 with h | h
  ·rw[h,hW1];exact Below.heap_setCell _ _ _ _ (fun e=>hsb (by have:=(HR.o.at_ _ _ _ hx).1;exact e.symm))
  ·rw[h]
   rfl
 have HCW:=lh hcvW;have hN63:IntKind.i64.wrap (N:Int)=(N:Int):=IntWalk.i64_in _ (by omega);have hu0:0≤(N:Int):=by omega
 have hNc:N≤c:=by omega
 clear hcv hW1 hg0 hp0 hq0 hs0 hsf hrb hpb hqb hsb' hr1 hg1 hgf hp1 hq1' hcvW hq1;have HSL:=lh HR.o.sl;have HAT:=lh HR.o.at_;have HNZ:=lh HR.o.nz
 obtain⟨S,hS⟩:∃ S,S=txt (b.take N):=⟨_,rfl⟩
 rw[← hS] at HB1 HW1 HCW;have HS:=lh hS;clear hS HR HCV
 have hbA:A=none∧b=[]∧c=0∧N=0 ∨ ∃ o,A=some ⟨bb,o,none⟩:=by
  cases A with
  | none =>
   have hc0:=HNZ.o rfl;have hb0:b.length=0:=by omega
   exact .inl ⟨rfl,List.length_eq_zero_iff.1 hb0,hc0,by omega⟩
  | some x =>
   obtain⟨b',o',m'⟩:=x;obtain⟨e1,e2⟩:=HAT.o b' o' m' rfl;exact .inr ⟨o',by rw[e1,e2]⟩
 rcases hbA with ⟨rfl,rfl,rfl,rfl⟩ | ⟨o,rfl⟩
 ·obtain⟨W2,hW2⟩:∃ W2,W2=W1.setCell ⟨g,0,none⟩ (sn):=⟨_,rfl⟩
  have HW2:=lh hW2;have hg0:W.drew.cell? ⟨g,0,none⟩=some (sn):=HF.o.1;have hp0:=HF.o.2.1;have hq0:W.drew.cell? ⟨q,0,none⟩=some (uv 0):=HF.o.2.2.1;have hg1:cl W1 g 0 (sn):=HF.o.2.2.2.1;have hp1:=HF.o.2.2.2.2.1;have hq1:cl W1 q 0 (uv 0):=HF.o.2.2.2.2.2.1;have HF2:=lh (And.intro hg0 (And.intro hp0 (And.intro hq0 (And.intro hg1 (And.intro hp1 hq1)))));clear hg0 hp0 hq0 hg1 hp1 hq1 hW2;refine qf4 18 (fun i=>([[],[],[1],[2],[3],[],[4,5],[6],[],[8],[9],[10],[],[11,12],[7],[0],[15],[13,16]]:List (List Nat)).getD i []) (fun L vs w=>w=stg L 17 (stg L 14 W.drew W1) W2∧Vals ([some (pq g 0),some (pq g 0),some (pq g 0),some (pq g 0),some (sn),some (uv 0),some (sn),some (.string S),some (pq g 0),some (pq g 0),some (pq g 0),some (sn),some (uv 0),some (sn),none,some (pq g 0),some (pq g 0),none]:List (Option Value)) L vs) rfl (by kernel_rfl) (by rfl) (fun vs=>?_) ?_ ?_
  ·refine⟨?_,fun k v _ h=>by rw[getD_replicate_false] at h;cases h⟩;unfold stg;rw[getD_replicate_false,getD_replicate_false,if_neg (by simp),if_neg (by simp)]
   all_goals exact rfl
  ·intro i hi o ho L vs w8 hls hun hwt hcl hI;have hun2:=und' hun;rcases (show i=0 ∨ i=1 ∨ i=2 ∨ i=3 ∨ i=4 ∨ i=5 ∨ i=6 ∨ i=7 ∨ i=8 ∨ i=9 ∨ i=10 ∨ i=11 ∨ i=12 ∨ i=13 ∨ i=14 ∨ i=15 ∨ i=16 ∨ i=17 by omega) with rfl | rfl | rfl | rfl | rfl | rfl | rfl | rfl | rfl | rfl | rfl | rfl | rfl | rfl | rfl | rfl | rfl | rfl <;> cases ho
   ·have n2:L.getD 17 false=false:=hcl.nd hun2 (by kernel_rfl);have hw:w8=stg L 14 W.drew W1:=hI.1.trans (qa8 _ _ n2);have ec:w8.cell? ⟨p,0,none⟩=some (pq g 0):=by rw[hw];exact qb8 (fun w:World=>cl w p 0 (pq g 0:Value)) HF2.o.2.1 HF2.o.2.2.2.2.1
    have hI2:=lh (And.intro hI (And.intro hls hw));clear hI hwt hun hun2 hcl hls n2 hw;change Made _ _ (Sem.run _ (execOp (Act.eval (frm _ _ _ [])) _) _);simp only[frm];go_simp;refine qa5 ⟨?_,hI2.out.1.2.put fun x hx=>by cases hx;rfl⟩;rw[qa3 _ _ (by decide),qa3 _ _ (by decide)];exact hI2.out.1.1
   ·have n2:L.getD 17 false=false:=hcl.nd hun2 (by kernel_rfl);have hw:w8=stg L 14 W.drew W1:=hI.1.trans (qa8 _ _ n2);have ec:w8.cell? ⟨p,0,none⟩=some (pq g 0):=by rw[hw];exact qb8 (fun w:World=>cl w p 0 (pq g 0:Value)) HF2.o.2.1 HF2.o.2.2.2.2.1
    have hI2:=lh (And.intro hI (And.intro hls hw));clear hI hwt hun hun2 hcl hls n2 hw;change Made _ _ (Sem.run _ (execOp (Act.eval (frm _ _ _ [])) _) _);simp only[frm];go_simp;refine qa5 ⟨?_,hI2.out.1.2.put fun x hx=>by cases hx;rfl⟩;rw[qa3 _ _ (by decide),qa3 _ _ (by decide)];exact hI2.out.1.1
   ·have h1:vs 1=pq g 0:=hI.2 1 _ rfl (hwt 1 (by kernel_rfl));have n2:L.getD 17 false=false:=hcl.nd hun2 (by kernel_rfl);have hw:w8=stg L 14 W.drew W1:=hI.1.trans (qa8 _ _ n2);have hI2:=lh (And.intro hI (And.intro hls hw));clear hI hwt hun hun2 hcl hls n2 hw;change Made _ _ (Sem.run _ (execOp (Act.eval (Act.put (frm _ _ _ []) (some 17) (vs 1))) _) _);simp only[frm,h1];go_simp;refine qa5 ⟨?_,hI2.out.1.2.put fun x hx=>by cases hx;rfl⟩;rw[qa3 _ _ (by decide),qa3 _ _ (by decide)];exact hI2.out.1.1
   ·have h2:vs 2=pq g 0:=hI.2 2 _ rfl (hwt 2 (by kernel_rfl));have n2:L.getD 17 false=false:=hcl.nd hun2 (by kernel_rfl);have hw:w8=stg L 14 W.drew W1:=hI.1.trans (qa8 _ _ n2);have hI2:=lh (And.intro hI (And.intro hls hw));clear hI hwt hun hun2 hcl hls n2 hw;change Made _ _ (Sem.run _ (execOp (Act.eval (Act.put (frm _ _ _ []) (some 18) (vs 2))) _) _);simp only[frm,h2];go_simp;refine qa5 ⟨?_,hI2.out.1.2.put fun x hx=>by cases hx;rfl⟩;rw[qa3 _ _ (by decide),qa3 _ _ (by decide)];exact hI2.out.1.1
   ·have h3:vs 3=pq g 0:=hI.2 3 _ rfl (hwt 3 (by kernel_rfl));have n2:L.getD 17 false=false:=hcl.nd hun2 (by kernel_rfl);have hw:w8=stg L 14 W.drew W1:=hI.1.trans (qa8 _ _ n2);have ec:w8.cell? ⟨g,0,none⟩=some (sn):=by rw[hw];exact qb8 (fun w:World=>cl w g 0 (sn:Value)) HF2.o.1 HF2.o.2.2.2.1
    have hI2:=lh (And.intro hI (And.intro hls hw));clear hI hwt hun hun2 hcl hls n2 hw;change Made _ _ (Sem.run _ (execOp (Act.eval (Act.put (frm _ _ _ []) (some 19) (vs 3))) _) _);simp only[frm,h3];go_simp;refine qa5 ⟨?_,hI2.out.1.2.put fun x hx=>by cases hx;rfl⟩;rw[qa3 _ _ (by decide),qa3 _ _ (by decide)];exact hI2.out.1.1
   ·have n2:L.getD 17 false=false:=hcl.nd hun2 (by kernel_rfl);have hw:w8=stg L 14 W.drew W1:=hI.1.trans (qa8 _ _ n2);have ec:w8.cell? ⟨q,0,none⟩=some (uv 0):=by rw[hw];exact qb8 (fun w:World=>cl w q 0 (uv 0:Value)) HF2.o.2.2.1 HF2.o.2.2.2.2.2
    have hI2:=lh (And.intro hI (And.intro hls hw));clear hI hwt hun hun2 hcl hls n2 hw;change Made _ _ (Sem.run _ (execOp (Act.eval (frm _ _ _ [])) _) _);simp only[frm];go_simp;refine qa5 ⟨?_,hI2.out.1.2.put fun x hx=>by cases hx;rfl⟩;rw[qa3 _ _ (by decide),qa3 _ _ (by decide)];exact hI2.out.1.1
   ·have h4:vs 4=sn:=hI.2 4 _ rfl (hwt 4 (by kernel_rfl));have h5:vs 5=uv 0:=hI.2 5 _ rfl (hwt 5 (by kernel_rfl));have n2:L.getD 17 false=false:=hcl.nd hun2 (by kernel_rfl);have hw:w8=stg L 14 W.drew W1:=hI.1.trans (qa8 _ _ n2);have hI2:=lh (And.intro hI (And.intro hls hw));clear hI hwt hun hun2 hcl hls n2 hw;change Made _ _ (Sem.run _ (execOp (Act.eval (Act.put (Act.put (frm _ _ _ []) (some 21) (vs 5)) (some 20) (vs 4))) _) _);simp only[frm,h4,h5];go_simp;refine qa5 ⟨?_,hI2.out.1.2.put fun x hx=>by cases hx;rfl⟩;rw[qa3 _ _ (by decide),qa3 _ _ (by decide)];exact hI2.out.1.1
   ·have h6:vs 6=sn:=hI.2 6 _ rfl (hwt 6 (by kernel_rfl));have n2:L.getD 17 false=false:=hcl.nd hun2 (by kernel_rfl);have hw:w8=stg L 14 W.drew W1:=hI.1.trans (qa8 _ _ n2);have hcw:(convert 45 9 (sn)).run Tryz.prog w8=.ok (.string S) w8:=HCW.o w8 (by rw[hw];unfold stg;split;exact .inr (.inl rfl);exact .inr (.inr rfl));have hI2:=lh (And.intro hI (And.intro hls hw));clear hI hwt hun hun2 hcl hls n2 hw;change Made _ _ (Sem.run _ (execOp (Act.eval (Act.put (frm _ _ _ []) (some 22) (vs 6))) _) _);simp only[frm,h6];go_simp;refine qa5 ⟨?_,hI2.out.1.2.put fun x hx=>by cases hx;rfl⟩;rw[qa3 _ _ (by decide),qa3 _ _ (by decide)];exact hI2.out.1.1
   ·have n2:L.getD 17 false=false:=hcl.nd hun2 (by kernel_rfl);have hw:w8=stg L 14 W.drew W1:=hI.1.trans (qa8 _ _ n2);have ec:w8.cell? ⟨p,0,none⟩=some (pq g 0):=by rw[hw];exact qb8 (fun w:World=>cl w p 0 (pq g 0:Value)) HF2.o.2.1 HF2.o.2.2.2.2.1
    have hI2:=lh (And.intro hI (And.intro hls hw));clear hI hwt hun hun2 hcl hls n2 hw;change Made _ _ (Sem.run _ (execOp (Act.eval (frm _ _ _ [])) _) _);simp only[frm];go_simp;refine qa5 ⟨?_,hI2.out.1.2.put fun x hx=>by cases hx;rfl⟩;rw[qa3 _ _ (by decide),qa3 _ _ (by decide)];exact hI2.out.1.1
   ·have h8:vs 8=pq g 0:=hI.2 8 _ rfl (hwt 8 (by kernel_rfl));have n2:L.getD 17 false=false:=hcl.nd hun2 (by kernel_rfl);have hw:w8=stg L 14 W.drew W1:=hI.1.trans (qa8 _ _ n2);have hI2:=lh (And.intro hI (And.intro hls hw));clear hI hwt hun hun2 hcl hls n2 hw;change Made _ _ (Sem.run _ (execOp (Act.eval (Act.put (frm _ _ _ []) (some 24) (vs 8))) _) _);simp only[frm,h8];go_simp;refine qa5 ⟨?_,hI2.out.1.2.put fun x hx=>by cases hx;rfl⟩;rw[qa3 _ _ (by decide),qa3 _ _ (by decide)];exact hI2.out.1.1
   ·have h9:vs 9=pq g 0:=hI.2 9 _ rfl (hwt 9 (by kernel_rfl));have n2:L.getD 17 false=false:=hcl.nd hun2 (by kernel_rfl);have hw:w8=stg L 14 W.drew W1:=hI.1.trans (qa8 _ _ n2);have hI2:=lh (And.intro hI (And.intro hls hw));clear hI hwt hun hun2 hcl hls n2 hw;change Made _ _ (Sem.run _ (execOp (Act.eval (Act.put (frm _ _ _ []) (some 25) (vs 9))) _) _);simp only[frm,h9];go_simp;refine qa5 ⟨?_,hI2.out.1.2.put fun x hx=>by cases hx;rfl⟩;rw[qa3 _ _ (by decide),qa3 _ _ (by decide)];exact hI2.out.1.1
   ·have h10:vs 10=pq g 0:=hI.2 10 _ rfl (hwt 10 (by kernel_rfl));have n2:L.getD 17 false=false:=hcl.nd hun2 (by kernel_rfl);have hw:w8=stg L 14 W.drew W1:=hI.1.trans (qa8 _ _ n2);have ec:w8.cell? ⟨g,0,none⟩=some (sn):=by rw[hw];exact qb8 (fun w:World=>cl w g 0 (sn:Value)) HF2.o.1 HF2.o.2.2.2.1
    have hI2:=lh (And.intro hI (And.intro hls hw));clear hI hwt hun hun2 hcl hls n2 hw;change Made _ _ (Sem.run _ (execOp (Act.eval (Act.put (frm _ _ _ []) (some 26) (vs 10))) _) _);simp only[frm,h10];go_simp;refine qa5 ⟨?_,hI2.out.1.2.put fun x hx=>by cases hx;rfl⟩;rw[qa3 _ _ (by decide),qa3 _ _ (by decide)];exact hI2.out.1.1
   ·have n2:L.getD 17 false=false:=hcl.nd hun2 (by kernel_rfl);have hw:w8=stg L 14 W.drew W1:=hI.1.trans (qa8 _ _ n2);have ec:w8.cell? ⟨q,0,none⟩=some (uv 0):=by rw[hw];exact qb8 (fun w:World=>cl w q 0 (uv 0:Value)) HF2.o.2.2.1 HF2.o.2.2.2.2.2
    have hI2:=lh (And.intro hI (And.intro hls hw));clear hI hwt hun hun2 hcl hls n2 hw;change Made _ _ (Sem.run _ (execOp (Act.eval (frm _ _ _ [])) _) _);simp only[frm];go_simp;refine qa5 ⟨?_,hI2.out.1.2.put fun x hx=>by cases hx;rfl⟩;rw[qa3 _ _ (by decide),qa3 _ _ (by decide)];exact hI2.out.1.1
   ·have h11:vs 11=sn:=hI.2 11 _ rfl (hwt 11 (by kernel_rfl));have h12:vs 12=uv 0:=hI.2 12 _ rfl (hwt 12 (by kernel_rfl));have n2:L.getD 17 false=false:=hcl.nd hun2 (by kernel_rfl);have hw:w8=stg L 14 W.drew W1:=hI.1.trans (qa8 _ _ n2);have hI2:=lh (And.intro hI (And.intro hls hw));clear hI hwt hun hun2 hcl hls n2 hw;change Made _ _ (Sem.run _ (execOp (Act.eval (Act.put (Act.put (frm _ _ _ []) (some 28) (vs 12)) (some 27) (vs 11))) _) _);simp only[frm,h11,h12];go_simp;refine qa5 ⟨?_,hI2.out.1.2.put fun x hx=>by cases hx;rfl⟩;rw[qa3 _ _ (by decide),qa3 _ _ (by decide)];exact hI2.out.1.1
   ·have h7:vs 7=.string S:=hI.2 7 _ rfl (hwt 7 (by kernel_rfl));have n2:L.getD 17 false=false:=hcl.nd hun2 (by kernel_rfl);have hw:w8=W.drew:=hI.1.trans ((qa8 _ _ n2).trans (qa8 _ _ hun2));subst hw;have es:=HF.o.2.2.2.2.2.2.1;have ef:=HF.o.2.2.2.2.2.2.2.1;have hI2:=lh (And.intro hI (And.intro hls n2));clear hI hwt hun hun2 hcl hls n2;change Made _ _ (Sem.run _ (execOp (Act.eval (Act.put (frm _ _ _ []) (some 23) (vs 7))) _) _);simp only[frm,h7];go_simp;refine qa7 ⟨?_,hI2.out.1.2.put fun x hx=>by cases hx⟩;rw[qa3 _ _ (by decide),qa8 _ _ hI2.out.2.2,qj5 _ _ (by rw[hI2.out.2.1];decide)];exact HW1.o.symm
   ·have h0:vs 0=pq g 0:=hI.2 0 _ rfl (hwt 0 (by kernel_rfl));have n16_:L.getD 16 false=false:=hcl.nd hun2 (by kernel_rfl);have n2:L.getD 17 false=false:=hcl.nd n16_ (by kernel_rfl);have hw:w8=stg L 14 W.drew W1:=hI.1.trans (qa8 _ _ n2);have hI2:=lh (And.intro hI (And.intro hls hw));clear hI hwt hun hun2 hcl hls n2 hw;change Made _ _ (Sem.run _ (execOp (Act.eval (Act.put (frm _ _ _ []) (some 16) (vs 0))) _) _);simp only[frm,h0];go_simp;refine qa5 ⟨?_,hI2.out.1.2.put fun x hx=>by cases hx;rfl⟩;rw[qa3 _ _ (by decide),qa3 _ _ (by decide)];exact hI2.out.1.1
   ·have h15:vs 15=pq g 0:=hI.2 15 _ rfl (hwt 15 (by kernel_rfl));have n2:L.getD 17 false=false:=hcl.nd hun2 (by kernel_rfl);have hw:w8=stg L 14 W.drew W1:=hI.1.trans (qa8 _ _ n2);have hI2:=lh (And.intro hI (And.intro hls hw));clear hI hwt hun hun2 hcl hls n2 hw;change Made _ _ (Sem.run _ (execOp (Act.eval (Act.put (frm _ _ _ []) (some 30) (vs 15))) _) _);simp only[frm,h15];go_simp;refine qa5 ⟨?_,hI2.out.1.2.put fun x hx=>by cases hx;rfl⟩;rw[qa3 _ _ (by decide),qa3 _ _ (by decide)];exact hI2.out.1.1
   ·have h13:vs 13=sn:=hI.2 13 _ rfl (hwt 13 (by kernel_rfl));have h16:vs 16=pq g 0:=hI.2 16 _ rfl (hwt 16 (by kernel_rfl));have hw:w8=W1:=hI.1.trans ((qa8 _ _ hun2).trans (qh0 _ _ (hwt 14 (by kernel_rfl))));subst hw;have es:=HF2.o.2.2.2.1;have ef:=HF.o.2.2.2.2.2.2.2.2;have hI2:=lh (And.intro hI hls);clear hI hwt hun hun2 hcl hls;change Made _ _ (Sem.run _ (execOp (Act.eval (Act.put (Act.put (frm _ _ _ []) (some 31) (vs 16)) (some 29) (vs 13))) _) _);simp only[frm,h13,h16];go_simp;refine qa7 ⟨?_,hI2.out.1.2.put fun x hx=>by cases hx⟩;rw[qj5 _ _ (by rw[hI2.out.2];decide)];exact HW2.o.symm
  ·intro L vs w8 hls hall hI;have hw:w8=W2:=hI.1.trans (qh0 _ _ (hall 17 (by decide)));have h0:vs 0=pq g 0:=hI.2 0 _ rfl (hall 0 (by decide));have h1:vs 1=pq g 0:=hI.2 1 _ rfl (hall 1 (by decide));have h2:vs 2=pq g 0:=hI.2 2 _ rfl (hall 2 (by decide));have h3:vs 3=pq g 0:=hI.2 3 _ rfl (hall 3 (by decide));have h4:vs 4=sn:=hI.2 4 _ rfl (hall 4 (by decide));have h5:vs 5=uv 0:=hI.2 5 _ rfl (hall 5 (by decide));have h6:vs 6=sn:=hI.2 6 _ rfl (hall 6 (by decide));have h7:vs 7=.string S:=hI.2 7 _ rfl (hall 7 (by decide));have h8:vs 8=pq g 0:=hI.2 8 _ rfl (hall 8 (by decide));have h9:vs 9=pq g 0:=hI.2 9 _ rfl (hall 9 (by decide));have h10:vs 10=pq g 0:=hI.2 10 _ rfl (hall 10 (by decide));have h11:vs 11=sn:=hI.2 11 _ rfl (hall 11 (by decide));have h12:vs 12=uv 0:=hI.2 12 _ rfl (hall 12 (by decide));have h13:vs 13=sn:=hI.2 13 _ rfl (hall 13 (by decide));have h15:vs 15=pq g 0:=hI.2 15 _ rfl (hall 15 (by decide));have h16:vs 16=pq g 0:=hI.2 16 _ rfl (hall 16 (by decide));change wpList _ _ _ [] (Act.put (Act.put (Act.put (Act.put (Act.put (Act.put (Act.put (Act.put (Act.put (Act.put (Act.put (Act.put (Act.put (Act.put (Act.put (Act.put (Act.put (Act.put (frm _ _ _ []) none (vs 17)) (some 31) (vs 16)) (some 30) (vs 15)) none (vs 14)) (some 29) (vs 13)) (some 28) (vs 12)) (some 27) (vs 11)) (some 26) (vs 10)) (some 25) (vs 9)) (some 24) (vs 8)) (some 23) (vs 7)) (some 22) (vs 6)) (some 21) (vs 5)) (some 20) (vs 4)) (some 19) (vs 3)) (some 18) (vs 2)) (some 17) (vs 1)) (some 16) (vs 0)) _;simp only[frm,h0,h1,h2,h3,h4,h5,h6,h7,h8,h9,h10,h11,h12,h13,h15,h16];generalize vs 14=vz14;generalize vs 17=vz17;rw[hw];clear hw hI hall hls h0 h1 h2 h3 h4 h5 h6 h7 h8 h9 h10 h11 h12 h13 h15 h16;clear hN63 hw2;have HK2:Hid (Kp (fun k=>k=g ∨ k=s) w W2):=lh (by rw[HW2.o];exact(HB1.o.2.2.mono (T:=fun k=>k=g ∨ k=s) fun _ _ h=>.inr h).trans (Kp.setCell (S:=fun k=>k=g) _ ⟨g,0,none⟩ _ rfl) fun _ _ h=>.inl h);have HS2:Hid (Bk W2 s 9 #[.string S]):=lh (by rw[HW2.o];exact HB1.o.2.1.far (p:=⟨g,0,none⟩) (fun e=>HNE.o.1 e.symm) _);have HHSZ:=lh HSL;clear HF HF2 HCW
   go_wp2_with fail
   go_ret;exact⟨rfl,⟨none,0,⟨by rw[HW2.o];exact HB1.o.1.set 0 _,Nat.le_refl _,Nat.zero_le _,Sl.nil _ _ _,fun b o m e=>(by cases e),fun _=>rfl,H.o.ne,H.o.b8⟩⟩,by have h9:=HS2.o;rw[HS.o] at h9;exact h9,HK2.o⟩
 ·by_cases hnc:N=c
  ·subst hnc;have hbl:b.length=N:=by omega
   obtain⟨W2,hW2⟩:∃ W2,W2=W1.setCell ⟨g,0,none⟩ (.slice (some ⟨bb,o,none⟩) 0 0):=⟨_,rfl⟩
   have HW2:=lh hW2;rw[hbl] at HF;have hg0:W.drew.cell? ⟨g,0,none⟩=some (.slice (some ⟨bb,o,none⟩) N N):=HF.o.1;have hp0:=HF.o.2.1;have hq0:W.drew.cell? ⟨q,0,none⟩=some (uv (N:Int)):=HF.o.2.2.1;have hg1:cl W1 g 0 (.slice (some ⟨bb,o,none⟩) N N):=HF.o.2.2.2.1;have hp1:=HF.o.2.2.2.2.1;have hq1:cl W1 q 0 (uv (N:Int)):=HF.o.2.2.2.2.2.1;have HF2:=lh (And.intro hg0 (And.intro hp0 (And.intro hq0 (And.intro hg1 (And.intro hp1 hq1)))));clear hg0 hp0 hq0 hg1 hp1 hq1 hW2;refine qf4 18 (fun i=>([[],[],[1],[2],[3],[],[4,5],[6],[],[8],[9],[10],[],[11,12],[7],[0],[15],[13,16]]:List (List Nat)).getD i []) (fun L vs w=>w=stg L 17 (stg L 14 W.drew W1) W2∧Vals ([some (pq g 0),some (pq g 0),some (pq g 0),some (pq g 0),some (.slice (some ⟨bb,o,none⟩) N N),some (uv (N:Int)),some (.slice (some ⟨bb,o,none⟩) N N),some (.string S),some (pq g 0),some (pq g 0),some (pq g 0),some (.slice (some ⟨bb,o,none⟩) N N),some (uv (N:Int)),some (.slice (some ⟨bb,o,none⟩) 0 0),none,some (pq g 0),some (pq g 0),none]:List (Option Value)) L vs) rfl (by kernel_rfl) (by rfl) (fun vs=>?_) ?_ ?_
   ·refine⟨?_,fun k v _ h=>by rw[getD_replicate_false] at h;cases h⟩;unfold stg;rw[getD_replicate_false,getD_replicate_false,if_neg (by simp),if_neg (by simp)]
    all_goals exact rfl
   ·intro i hi o ho L vs w8 hls hun hwt hcl hI;have hun2:=und' hun;rcases (show i=0 ∨ i=1 ∨ i=2 ∨ i=3 ∨ i=4 ∨ i=5 ∨ i=6 ∨ i=7 ∨ i=8 ∨ i=9 ∨ i=10 ∨ i=11 ∨ i=12 ∨ i=13 ∨ i=14 ∨ i=15 ∨ i=16 ∨ i=17 by omega) with rfl | rfl | rfl | rfl | rfl | rfl | rfl | rfl | rfl | rfl | rfl | rfl | rfl | rfl | rfl | rfl | rfl | rfl <;> cases ho
    ·have n2:L.getD 17 false=false:=hcl.nd hun2 (by kernel_rfl);have hw:w8=stg L 14 W.drew W1:=hI.1.trans (qa8 _ _ n2);have ec:w8.cell? ⟨p,0,none⟩=some (pq g 0):=by rw[hw];exact qb8 (fun w:World=>cl w p 0 (pq g 0:Value)) HF2.o.2.1 HF2.o.2.2.2.2.1
     have hI2:=lh (And.intro hI (And.intro hls hw));clear hI hwt hun hun2 hcl hls n2 hw;change Made _ _ (Sem.run _ (execOp (Act.eval (frm _ _ _ [])) _) _);simp only[frm];go_simp;refine qa5 ⟨?_,hI2.out.1.2.put fun x hx=>by cases hx;rfl⟩;rw[qa3 _ _ (by decide),qa3 _ _ (by decide)];exact hI2.out.1.1
    ·have n2:L.getD 17 false=false:=hcl.nd hun2 (by kernel_rfl);have hw:w8=stg L 14 W.drew W1:=hI.1.trans (qa8 _ _ n2);have ec:w8.cell? ⟨p,0,none⟩=some (pq g 0):=by rw[hw];exact qb8 (fun w:World=>cl w p 0 (pq g 0:Value)) HF2.o.2.1 HF2.o.2.2.2.2.1
     have hI2:=lh (And.intro hI (And.intro hls hw));clear hI hwt hun hun2 hcl hls n2 hw;change Made _ _ (Sem.run _ (execOp (Act.eval (frm _ _ _ [])) _) _);simp only[frm];go_simp;refine qa5 ⟨?_,hI2.out.1.2.put fun x hx=>by cases hx;rfl⟩;rw[qa3 _ _ (by decide),qa3 _ _ (by decide)];exact hI2.out.1.1
    ·have h1:vs 1=pq g 0:=hI.2 1 _ rfl (hwt 1 (by kernel_rfl));have n2:L.getD 17 false=false:=hcl.nd hun2 (by kernel_rfl);have hw:w8=stg L 14 W.drew W1:=hI.1.trans (qa8 _ _ n2);have hI2:=lh (And.intro hI (And.intro hls hw));clear hI hwt hun hun2 hcl hls n2 hw;change Made _ _ (Sem.run _ (execOp (Act.eval (Act.put (frm _ _ _ []) (some 17) (vs 1))) _) _);simp only[frm,h1];go_simp;refine qa5 ⟨?_,hI2.out.1.2.put fun x hx=>by cases hx;rfl⟩;rw[qa3 _ _ (by decide),qa3 _ _ (by decide)];exact hI2.out.1.1
    ·have h2:vs 2=pq g 0:=hI.2 2 _ rfl (hwt 2 (by kernel_rfl));have n2:L.getD 17 false=false:=hcl.nd hun2 (by kernel_rfl);have hw:w8=stg L 14 W.drew W1:=hI.1.trans (qa8 _ _ n2);have hI2:=lh (And.intro hI (And.intro hls hw));clear hI hwt hun hun2 hcl hls n2 hw;change Made _ _ (Sem.run _ (execOp (Act.eval (Act.put (frm _ _ _ []) (some 18) (vs 2))) _) _);simp only[frm,h2];go_simp;refine qa5 ⟨?_,hI2.out.1.2.put fun x hx=>by cases hx;rfl⟩;rw[qa3 _ _ (by decide),qa3 _ _ (by decide)];exact hI2.out.1.1
    ·have h3:vs 3=pq g 0:=hI.2 3 _ rfl (hwt 3 (by kernel_rfl));have n2:L.getD 17 false=false:=hcl.nd hun2 (by kernel_rfl);have hw:w8=stg L 14 W.drew W1:=hI.1.trans (qa8 _ _ n2);have ec:w8.cell? ⟨g,0,none⟩=some (.slice (some ⟨bb,o,none⟩) N N):=by rw[hw];exact qb8 (fun w:World=>cl w g 0 (.slice (some ⟨bb,o,none⟩) N N:Value)) HF2.o.1 HF2.o.2.2.2.1
     have hI2:=lh (And.intro hI (And.intro hls hw));clear hI hwt hun hun2 hcl hls n2 hw;change Made _ _ (Sem.run _ (execOp (Act.eval (Act.put (frm _ _ _ []) (some 19) (vs 3))) _) _);simp only[frm,h3];go_simp;refine qa5 ⟨?_,hI2.out.1.2.put fun x hx=>by cases hx;rfl⟩;rw[qa3 _ _ (by decide),qa3 _ _ (by decide)];exact hI2.out.1.1
    ·have n2:L.getD 17 false=false:=hcl.nd hun2 (by kernel_rfl);have hw:w8=stg L 14 W.drew W1:=hI.1.trans (qa8 _ _ n2);have ec:w8.cell? ⟨q,0,none⟩=some (uv (N:Int)):=by rw[hw];exact qb8 (fun w:World=>cl w q 0 (uv (N:Int):Value)) HF2.o.2.2.1 HF2.o.2.2.2.2.2
     have hI2:=lh (And.intro hI (And.intro hls hw));clear hI hwt hun hun2 hcl hls n2 hw;change Made _ _ (Sem.run _ (execOp (Act.eval (frm _ _ _ [])) _) _);simp only[frm];go_simp;refine qa5 ⟨?_,hI2.out.1.2.put fun x hx=>by cases hx;rfl⟩;rw[qa3 _ _ (by decide),qa3 _ _ (by decide)];exact hI2.out.1.1
    ·have h4:vs 4=.slice (some ⟨bb,o,none⟩) N N:=hI.2 4 _ rfl (hwt 4 (by kernel_rfl));have h5:vs 5=uv (N:Int):=hI.2 5 _ rfl (hwt 5 (by kernel_rfl));have n2:L.getD 17 false=false:=hcl.nd hun2 (by kernel_rfl);have hw:w8=stg L 14 W.drew W1:=hI.1.trans (qa8 _ _ n2);have hle:N≤N:=Nat.le_refl _;have hI2:=lh (And.intro hI (And.intro hls hw));clear hI hwt hun hun2 hcl hls n2 hw;change Made _ _ (Sem.run _ (execOp (Act.eval (Act.put (Act.put (frm _ _ _ []) (some 21) (vs 5)) (some 20) (vs 4))) _) _);simp only[frm,h4,h5];go_simp;refine qa5 ⟨?_,hI2.out.1.2.put fun x hx=>by cases hx;rfl⟩;rw[qa3 _ _ (by decide),qa3 _ _ (by decide)];exact hI2.out.1.1
    ·have h6:vs 6=.slice (some ⟨bb,o,none⟩) N N:=hI.2 6 _ rfl (hwt 6 (by kernel_rfl));have n2:L.getD 17 false=false:=hcl.nd hun2 (by kernel_rfl);have hw:w8=stg L 14 W.drew W1:=hI.1.trans (qa8 _ _ n2);have hcw:(convert 45 9 (.slice (some ⟨bb,o,none⟩) N N)).run Tryz.prog w8=.ok (.string S) w8:=HCW.o w8 (by rw[hw];unfold stg;split;exact .inr (.inl rfl);exact .inr (.inr rfl));have hI2:=lh (And.intro hI (And.intro hls hw));clear hI hwt hun hun2 hcl hls n2 hw;change Made _ _ (Sem.run _ (execOp (Act.eval (Act.put (frm _ _ _ []) (some 22) (vs 6))) _) _);simp only[frm,h6];go_simp;refine qa5 ⟨?_,hI2.out.1.2.put fun x hx=>by cases hx;rfl⟩;rw[qa3 _ _ (by decide),qa3 _ _ (by decide)];exact hI2.out.1.1
    ·have n2:L.getD 17 false=false:=hcl.nd hun2 (by kernel_rfl);have hw:w8=stg L 14 W.drew W1:=hI.1.trans (qa8 _ _ n2);have ec:w8.cell? ⟨p,0,none⟩=some (pq g 0):=by rw[hw];exact qb8 (fun w:World=>cl w p 0 (pq g 0:Value)) HF2.o.2.1 HF2.o.2.2.2.2.1
     have hI2:=lh (And.intro hI (And.intro hls hw));clear hI hwt hun hun2 hcl hls n2 hw;change Made _ _ (Sem.run _ (execOp (Act.eval (frm _ _ _ [])) _) _);simp only[frm];go_simp;refine qa5 ⟨?_,hI2.out.1.2.put fun x hx=>by cases hx;rfl⟩;rw[qa3 _ _ (by decide),qa3 _ _ (by decide)];exact hI2.out.1.1
    ·have h8:vs 8=pq g 0:=hI.2 8 _ rfl (hwt 8 (by kernel_rfl));have n2:L.getD 17 false=false:=hcl.nd hun2 (by kernel_rfl);have hw:w8=stg L 14 W.drew W1:=hI.1.trans (qa8 _ _ n2);have hI2:=lh (And.intro hI (And.intro hls hw));clear hI hwt hun hun2 hcl hls n2 hw;change Made _ _ (Sem.run _ (execOp (Act.eval (Act.put (frm _ _ _ []) (some 24) (vs 8))) _) _);simp only[frm,h8];go_simp;refine qa5 ⟨?_,hI2.out.1.2.put fun x hx=>by cases hx;rfl⟩;rw[qa3 _ _ (by decide),qa3 _ _ (by decide)];exact hI2.out.1.1
    ·have h9:vs 9=pq g 0:=hI.2 9 _ rfl (hwt 9 (by kernel_rfl));have n2:L.getD 17 false=false:=hcl.nd hun2 (by kernel_rfl);have hw:w8=stg L 14 W.drew W1:=hI.1.trans (qa8 _ _ n2);have hI2:=lh (And.intro hI (And.intro hls hw));clear hI hwt hun hun2 hcl hls n2 hw;change Made _ _ (Sem.run _ (execOp (Act.eval (Act.put (frm _ _ _ []) (some 25) (vs 9))) _) _);simp only[frm,h9];go_simp;refine qa5 ⟨?_,hI2.out.1.2.put fun x hx=>by cases hx;rfl⟩;rw[qa3 _ _ (by decide),qa3 _ _ (by decide)];exact hI2.out.1.1
    ·have h10:vs 10=pq g 0:=hI.2 10 _ rfl (hwt 10 (by kernel_rfl));have n2:L.getD 17 false=false:=hcl.nd hun2 (by kernel_rfl);have hw:w8=stg L 14 W.drew W1:=hI.1.trans (qa8 _ _ n2);have ec:w8.cell? ⟨g,0,none⟩=some (.slice (some ⟨bb,o,none⟩) N N):=by rw[hw];exact qb8 (fun w:World=>cl w g 0 (.slice (some ⟨bb,o,none⟩) N N:Value)) HF2.o.1 HF2.o.2.2.2.1
     have hI2:=lh (And.intro hI (And.intro hls hw));clear hI hwt hun hun2 hcl hls n2 hw;change Made _ _ (Sem.run _ (execOp (Act.eval (Act.put (frm _ _ _ []) (some 26) (vs 10))) _) _);simp only[frm,h10];go_simp;refine qa5 ⟨?_,hI2.out.1.2.put fun x hx=>by cases hx;rfl⟩;rw[qa3 _ _ (by decide),qa3 _ _ (by decide)];exact hI2.out.1.1
    ·have n2:L.getD 17 false=false:=hcl.nd hun2 (by kernel_rfl);have hw:w8=stg L 14 W.drew W1:=hI.1.trans (qa8 _ _ n2);have ec:w8.cell? ⟨q,0,none⟩=some (uv (N:Int)):=by rw[hw];exact qb8 (fun w:World=>cl w q 0 (uv (N:Int):Value)) HF2.o.2.2.1 HF2.o.2.2.2.2.2
     have hI2:=lh (And.intro hI (And.intro hls hw));clear hI hwt hun hun2 hcl hls n2 hw;change Made _ _ (Sem.run _ (execOp (Act.eval (frm _ _ _ [])) _) _);simp only[frm];go_simp;refine qa5 ⟨?_,hI2.out.1.2.put fun x hx=>by cases hx;rfl⟩;rw[qa3 _ _ (by decide),qa3 _ _ (by decide)];exact hI2.out.1.1
    ·have h11:vs 11=.slice (some ⟨bb,o,none⟩) N N:=hI.2 11 _ rfl (hwt 11 (by kernel_rfl));have h12:vs 12=uv (N:Int):=hI.2 12 _ rfl (hwt 12 (by kernel_rfl));have n2:L.getD 17 false=false:=hcl.nd hun2 (by kernel_rfl);have hw:w8=stg L 14 W.drew W1:=hI.1.trans (qa8 _ _ n2);have hle:N≤N:=Nat.le_refl _;have hI2:=lh (And.intro hI (And.intro hls hw));clear hI hwt hun hun2 hcl hls n2 hw;change Made _ _ (Sem.run _ (execOp (Act.eval (Act.put (Act.put (frm _ _ _ []) (some 28) (vs 12)) (some 27) (vs 11))) _) _);simp only[frm,h11,h12];go_simp;refine qa5 ⟨?_,hI2.out.1.2.put fun x hx=>by cases hx;rfl⟩;rw[qa3 _ _ (by decide),qa3 _ _ (by decide)];exact hI2.out.1.1
    ·have h7:vs 7=.string S:=hI.2 7 _ rfl (hwt 7 (by kernel_rfl));have n2:L.getD 17 false=false:=hcl.nd hun2 (by kernel_rfl);have hw:w8=W.drew:=hI.1.trans ((qa8 _ _ n2).trans (qa8 _ _ hun2));subst hw;have es:=HF.o.2.2.2.2.2.2.1;have ef:=HF.o.2.2.2.2.2.2.2.1;have hI2:=lh (And.intro hI (And.intro hls n2));clear hI hwt hun hun2 hcl hls n2;change Made _ _ (Sem.run _ (execOp (Act.eval (Act.put (frm _ _ _ []) (some 23) (vs 7))) _) _);simp only[frm,h7];go_simp;refine qa7 ⟨?_,hI2.out.1.2.put fun x hx=>by cases hx⟩;rw[qa3 _ _ (by decide),qa8 _ _ hI2.out.2.2,qj5 _ _ (by rw[hI2.out.2.1];decide)];exact HW1.o.symm
    ·have h0:vs 0=pq g 0:=hI.2 0 _ rfl (hwt 0 (by kernel_rfl));have n16_:L.getD 16 false=false:=hcl.nd hun2 (by kernel_rfl);have n2:L.getD 17 false=false:=hcl.nd n16_ (by kernel_rfl);have hw:w8=stg L 14 W.drew W1:=hI.1.trans (qa8 _ _ n2);have hI2:=lh (And.intro hI (And.intro hls hw));clear hI hwt hun hun2 hcl hls n2 hw;change Made _ _ (Sem.run _ (execOp (Act.eval (Act.put (frm _ _ _ []) (some 16) (vs 0))) _) _);simp only[frm,h0];go_simp;refine qa5 ⟨?_,hI2.out.1.2.put fun x hx=>by cases hx;rfl⟩;rw[qa3 _ _ (by decide),qa3 _ _ (by decide)];exact hI2.out.1.1
    ·have h15:vs 15=pq g 0:=hI.2 15 _ rfl (hwt 15 (by kernel_rfl));have n2:L.getD 17 false=false:=hcl.nd hun2 (by kernel_rfl);have hw:w8=stg L 14 W.drew W1:=hI.1.trans (qa8 _ _ n2);have hI2:=lh (And.intro hI (And.intro hls hw));clear hI hwt hun hun2 hcl hls n2 hw;change Made _ _ (Sem.run _ (execOp (Act.eval (Act.put (frm _ _ _ []) (some 30) (vs 15))) _) _);simp only[frm,h15];go_simp;refine qa5 ⟨?_,hI2.out.1.2.put fun x hx=>by cases hx;rfl⟩;rw[qa3 _ _ (by decide),qa3 _ _ (by decide)];exact hI2.out.1.1
    ·have h13:vs 13=.slice (some ⟨bb,o,none⟩) 0 0:=hI.2 13 _ rfl (hwt 13 (by kernel_rfl));have h16:vs 16=pq g 0:=hI.2 16 _ rfl (hwt 16 (by kernel_rfl));have hw:w8=W1:=hI.1.trans ((qa8 _ _ hun2).trans (qh0 _ _ (hwt 14 (by kernel_rfl))));subst hw;have es:=HF2.o.2.2.2.1;have ef:=HF.o.2.2.2.2.2.2.2.2;have hI2:=lh (And.intro hI hls);clear hI hwt hun hun2 hcl hls;change Made _ _ (Sem.run _ (execOp (Act.eval (Act.put (Act.put (frm _ _ _ []) (some 31) (vs 16)) (some 29) (vs 13))) _) _);simp only[frm,h13,h16];go_simp;refine qa7 ⟨?_,hI2.out.1.2.put fun x hx=>by cases hx⟩;rw[qj5 _ _ (by rw[hI2.out.2];decide)];exact HW2.o.symm
   ·intro L vs w8 hls hall hI;have hw:w8=W2:=hI.1.trans (qh0 _ _ (hall 17 (by decide)));have h0:vs 0=pq g 0:=hI.2 0 _ rfl (hall 0 (by decide));have h1:vs 1=pq g 0:=hI.2 1 _ rfl (hall 1 (by decide));have h2:vs 2=pq g 0:=hI.2 2 _ rfl (hall 2 (by decide));have h3:vs 3=pq g 0:=hI.2 3 _ rfl (hall 3 (by decide));have h4:vs 4=.slice (some ⟨bb,o,none⟩) N N:=hI.2 4 _ rfl (hall 4 (by decide));have h5:vs 5=uv (N:Int):=hI.2 5 _ rfl (hall 5 (by decide));have h6:vs 6=.slice (some ⟨bb,o,none⟩) N N:=hI.2 6 _ rfl (hall 6 (by decide));have h7:vs 7=.string S:=hI.2 7 _ rfl (hall 7 (by decide));have h8:vs 8=pq g 0:=hI.2 8 _ rfl (hall 8 (by decide));have h9:vs 9=pq g 0:=hI.2 9 _ rfl (hall 9 (by decide));have h10:vs 10=pq g 0:=hI.2 10 _ rfl (hall 10 (by decide));have h11:vs 11=.slice (some ⟨bb,o,none⟩) N N:=hI.2 11 _ rfl (hall 11 (by decide));have h12:vs 12=uv (N:Int):=hI.2 12 _ rfl (hall 12 (by decide));have h13:vs 13=.slice (some ⟨bb,o,none⟩) 0 0:=hI.2 13 _ rfl (hall 13 (by decide));have h15:vs 15=pq g 0:=hI.2 15 _ rfl (hall 15 (by decide));have h16:vs 16=pq g 0:=hI.2 16 _ rfl (hall 16 (by decide));change wpList _ _ _ [] (Act.put (Act.put (Act.put (Act.put (Act.put (Act.put (Act.put (Act.put (Act.put (Act.put (Act.put (Act.put (Act.put (Act.put (Act.put (Act.put (Act.put (Act.put (frm _ _ _ []) none (vs 17)) (some 31) (vs 16)) (some 30) (vs 15)) none (vs 14)) (some 29) (vs 13)) (some 28) (vs 12)) (some 27) (vs 11)) (some 26) (vs 10)) (some 25) (vs 9)) (some 24) (vs 8)) (some 23) (vs 7)) (some 22) (vs 6)) (some 21) (vs 5)) (some 20) (vs 4)) (some 19) (vs 3)) (some 18) (vs 2)) (some 17) (vs 1)) (some 16) (vs 0)) _;simp only[frm,h0,h1,h2,h3,h4,h5,h6,h7,h8,h9,h10,h11,h12,h13,h15,h16];generalize vs 14=vz14;generalize vs 17=vz17;rw[hw];clear hw hI hall hls h0 h1 h2 h3 h4 h5 h6 h7 h8 h9 h10 h11 h12 h13 h15 h16;clear hN63 hw2;have HD:Hid (b.drop N=[]):=lh (List.drop_eq_nil_of_le (by omega));have HK2:Hid (Kp (fun k=>k=g ∨ k=s) w W2):=lh (by rw[HW2.o];exact(HB1.o.2.2.mono (T:=fun k=>k=g ∨ k=s) fun _ _ h=>.inr h).trans (Kp.setCell (S:=fun k=>k=g) _ ⟨g,0,none⟩ _ rfl) fun _ _ h=>.inl h);have HS2:Hid (Bk W2 s 9 #[.string S]):=lh (by rw[HW2.o];exact HB1.o.2.1.far (p:=⟨g,0,none⟩) (fun e=>HNE.o.1 e.symm) _);have HHSZ:=lh HSL;clear HF HF2 HCW
    go_wp2_with fail
    go_ret;exact⟨rfl,⟨some ⟨bb,o,none⟩,0,⟨by rw[HW2.o,HD.o];exact HB1.o.1.set 0 _,by rw[HD.o];exact Nat.le_refl _,Nat.zero_le _,by rw[HD.o];exact Sl.nil _ _ _,fun b o m e=>(by cases e;exact⟨rfl,rfl⟩),fun e=>(by cases e),H.o.ne,H.o.b8.drop N⟩⟩,by have h9:=HS2.o;rw[HS.o] at h9;exact h9,HK2.o⟩
  ·obtain⟨W2,hW2⟩:∃ W2,W2=W1.setCell ⟨g,0,none⟩ (.slice (some ⟨bb,o+N,none⟩) (b.length - N) (c - N)):=⟨_,rfl⟩
   have HW2:=lh hW2;have hg0:W.drew.cell? ⟨g,0,none⟩=some (.slice (some ⟨bb,o,none⟩) b.length c):=HF.o.1;have hp0:=HF.o.2.1;have hq0:W.drew.cell? ⟨q,0,none⟩=some (uv (N:Int)):=HF.o.2.2.1;have hg1:cl W1 g 0 (.slice (some ⟨bb,o,none⟩) b.length c):=HF.o.2.2.2.1;have hp1:=HF.o.2.2.2.2.1;have hq1:cl W1 q 0 (uv (N:Int)):=HF.o.2.2.2.2.2.1;have HF2:=lh (And.intro hg0 (And.intro hp0 (And.intro hq0 (And.intro hg1 (And.intro hp1 hq1)))));clear hg0 hp0 hq0 hg1 hp1 hq1 hW2;refine qf4 18 (fun i=>([[],[],[1],[2],[3],[],[4,5],[6],[],[8],[9],[10],[],[11,12],[7],[0],[15],[13,16]]:List (List Nat)).getD i []) (fun L vs w=>w=stg L 17 (stg L 14 W.drew W1) W2∧Vals ([some (pq g 0),some (pq g 0),some (pq g 0),some (pq g 0),some (.slice (some ⟨bb,o,none⟩) b.length c),some (uv (N:Int)),some (.slice (some ⟨bb,o,none⟩) N c),some (.string S),some (pq g 0),some (pq g 0),some (pq g 0),some (.slice (some ⟨bb,o,none⟩) b.length c),some (uv (N:Int)),some (.slice (some ⟨bb,o+N,none⟩) (b.length - N) (c - N)),none,some (pq g 0),some (pq g 0),none]:List (Option Value)) L vs) rfl (by kernel_rfl) (by rfl) (fun vs=>?_) ?_ ?_
   ·refine⟨?_,fun k v _ h=>by rw[getD_replicate_false] at h;cases h⟩;unfold stg;rw[getD_replicate_false,getD_replicate_false,if_neg (by simp),if_neg (by simp)]
    all_goals exact rfl
   ·intro i hi o ho L vs w8 hls hun hwt hcl hI;have hun2:=und' hun;rcases (show i=0 ∨ i=1 ∨ i=2 ∨ i=3 ∨ i=4 ∨ i=5 ∨ i=6 ∨ i=7 ∨ i=8 ∨ i=9 ∨ i=10 ∨ i=11 ∨ i=12 ∨ i=13 ∨ i=14 ∨ i=15 ∨ i=16 ∨ i=17 by omega) with rfl | rfl | rfl | rfl | rfl | rfl | rfl | rfl | rfl | rfl | rfl | rfl | rfl | rfl | rfl | rfl | rfl | rfl <;> cases ho
    ·have n2:L.getD 17 false=false:=hcl.nd hun2 (by kernel_rfl);have hw:w8=stg L 14 W.drew W1:=hI.1.trans (qa8 _ _ n2);have ec:w8.cell? ⟨p,0,none⟩=some (pq g 0):=by rw[hw];exact qb8 (fun w:World=>cl w p 0 (pq g 0:Value)) HF2.o.2.1 HF2.o.2.2.2.2.1
     have hI2:=lh (And.intro hI (And.intro hls hw));clear hI hwt hun hun2 hcl hls n2 hw;change Made _ _ (Sem.run _ (execOp (Act.eval (frm _ _ _ [])) _) _);simp only[frm];go_simp;refine qa5 ⟨?_,hI2.out.1.2.put fun x hx=>by cases hx;rfl⟩;rw[qa3 _ _ (by decide),qa3 _ _ (by decide)];exact hI2.out.1.1
    ·have n2:L.getD 17 false=false:=hcl.nd hun2 (by kernel_rfl);have hw:w8=stg L 14 W.drew W1:=hI.1.trans (qa8 _ _ n2);have ec:w8.cell? ⟨p,0,none⟩=some (pq g 0):=by rw[hw];exact qb8 (fun w:World=>cl w p 0 (pq g 0:Value)) HF2.o.2.1 HF2.o.2.2.2.2.1
     have hI2:=lh (And.intro hI (And.intro hls hw));clear hI hwt hun hun2 hcl hls n2 hw;change Made _ _ (Sem.run _ (execOp (Act.eval (frm _ _ _ [])) _) _);simp only[frm];go_simp;refine qa5 ⟨?_,hI2.out.1.2.put fun x hx=>by cases hx;rfl⟩;rw[qa3 _ _ (by decide),qa3 _ _ (by decide)];exact hI2.out.1.1
    ·have h1:vs 1=pq g 0:=hI.2 1 _ rfl (hwt 1 (by kernel_rfl));have n2:L.getD 17 false=false:=hcl.nd hun2 (by kernel_rfl);have hw:w8=stg L 14 W.drew W1:=hI.1.trans (qa8 _ _ n2);have hI2:=lh (And.intro hI (And.intro hls hw));clear hI hwt hun hun2 hcl hls n2 hw;change Made _ _ (Sem.run _ (execOp (Act.eval (Act.put (frm _ _ _ []) (some 17) (vs 1))) _) _);simp only[frm,h1];go_simp;refine qa5 ⟨?_,hI2.out.1.2.put fun x hx=>by cases hx;rfl⟩;rw[qa3 _ _ (by decide),qa3 _ _ (by decide)];exact hI2.out.1.1
    ·have h2:vs 2=pq g 0:=hI.2 2 _ rfl (hwt 2 (by kernel_rfl));have n2:L.getD 17 false=false:=hcl.nd hun2 (by kernel_rfl);have hw:w8=stg L 14 W.drew W1:=hI.1.trans (qa8 _ _ n2);have hI2:=lh (And.intro hI (And.intro hls hw));clear hI hwt hun hun2 hcl hls n2 hw;change Made _ _ (Sem.run _ (execOp (Act.eval (Act.put (frm _ _ _ []) (some 18) (vs 2))) _) _);simp only[frm,h2];go_simp;refine qa5 ⟨?_,hI2.out.1.2.put fun x hx=>by cases hx;rfl⟩;rw[qa3 _ _ (by decide),qa3 _ _ (by decide)];exact hI2.out.1.1
    ·have h3:vs 3=pq g 0:=hI.2 3 _ rfl (hwt 3 (by kernel_rfl));have n2:L.getD 17 false=false:=hcl.nd hun2 (by kernel_rfl);have hw:w8=stg L 14 W.drew W1:=hI.1.trans (qa8 _ _ n2);have ec:w8.cell? ⟨g,0,none⟩=some (.slice (some ⟨bb,o,none⟩) b.length c):=by rw[hw];exact qb8 (fun w:World=>cl w g 0 (.slice (some ⟨bb,o,none⟩) b.length c:Value)) HF2.o.1 HF2.o.2.2.2.1
     have hI2:=lh (And.intro hI (And.intro hls hw));clear hI hwt hun hun2 hcl hls n2 hw;change Made _ _ (Sem.run _ (execOp (Act.eval (Act.put (frm _ _ _ []) (some 19) (vs 3))) _) _);simp only[frm,h3];go_simp;refine qa5 ⟨?_,hI2.out.1.2.put fun x hx=>by cases hx;rfl⟩;rw[qa3 _ _ (by decide),qa3 _ _ (by decide)];exact hI2.out.1.1
    ·have n2:L.getD 17 false=false:=hcl.nd hun2 (by kernel_rfl);have hw:w8=stg L 14 W.drew W1:=hI.1.trans (qa8 _ _ n2);have ec:w8.cell? ⟨q,0,none⟩=some (uv (N:Int)):=by rw[hw];exact qb8 (fun w:World=>cl w q 0 (uv (N:Int):Value)) HF2.o.2.2.1 HF2.o.2.2.2.2.2
     have hI2:=lh (And.intro hI (And.intro hls hw));clear hI hwt hun hun2 hcl hls n2 hw;change Made _ _ (Sem.run _ (execOp (Act.eval (frm _ _ _ [])) _) _);simp only[frm];go_simp;refine qa5 ⟨?_,hI2.out.1.2.put fun x hx=>by cases hx;rfl⟩;rw[qa3 _ _ (by decide),qa3 _ _ (by decide)];exact hI2.out.1.1
    ·have h4:vs 4=.slice (some ⟨bb,o,none⟩) b.length c:=hI.2 4 _ rfl (hwt 4 (by kernel_rfl));have h5:vs 5=uv (N:Int):=hI.2 5 _ rfl (hwt 5 (by kernel_rfl));have n2:L.getD 17 false=false:=hcl.nd hun2 (by kernel_rfl);have hw:w8=stg L 14 W.drew W1:=hI.1.trans (qa8 _ _ n2);have hlt9:N < c:=by omega
     have hcn:¬ c=N:=by omega
     have hI2:=lh (And.intro hI (And.intro hls hw));clear hI hwt hun hun2 hcl hls n2 hw;change Made _ _ (Sem.run _ (execOp (Act.eval (Act.put (Act.put (frm _ _ _ []) (some 21) (vs 5)) (some 20) (vs 4))) _) _);simp only[frm,h4,h5];go_simp;refine qa5 ⟨?_,hI2.out.1.2.put fun x hx=>by cases hx;rfl⟩;rw[qa3 _ _ (by decide),qa3 _ _ (by decide)];exact hI2.out.1.1
    ·have h6:vs 6=.slice (some ⟨bb,o,none⟩) N c:=hI.2 6 _ rfl (hwt 6 (by kernel_rfl));have n2:L.getD 17 false=false:=hcl.nd hun2 (by kernel_rfl);have hw:w8=stg L 14 W.drew W1:=hI.1.trans (qa8 _ _ n2);have hcw:(convert 45 9 (.slice (some ⟨bb,o,none⟩) N c)).run Tryz.prog w8=.ok (.string S) w8:=HCW.o w8 (by rw[hw];unfold stg;split;exact .inr (.inl rfl);exact .inr (.inr rfl));have hI2:=lh (And.intro hI (And.intro hls hw));clear hI hwt hun hun2 hcl hls n2 hw;change Made _ _ (Sem.run _ (execOp (Act.eval (Act.put (frm _ _ _ []) (some 22) (vs 6))) _) _);simp only[frm,h6];go_simp;refine qa5 ⟨?_,hI2.out.1.2.put fun x hx=>by cases hx;rfl⟩;rw[qa3 _ _ (by decide),qa3 _ _ (by decide)];exact hI2.out.1.1
    ·have n2:L.getD 17 false=false:=hcl.nd hun2 (by kernel_rfl);have hw:w8=stg L 14 W.drew W1:=hI.1.trans (qa8 _ _ n2);have ec:w8.cell? ⟨p,0,none⟩=some (pq g 0):=by rw[hw];exact qb8 (fun w:World=>cl w p 0 (pq g 0:Value)) HF2.o.2.1 HF2.o.2.2.2.2.1
     have hI2:=lh (And.intro hI (And.intro hls hw));clear hI hwt hun hun2 hcl hls n2 hw;change Made _ _ (Sem.run _ (execOp (Act.eval (frm _ _ _ [])) _) _);simp only[frm];go_simp;refine qa5 ⟨?_,hI2.out.1.2.put fun x hx=>by cases hx;rfl⟩;rw[qa3 _ _ (by decide),qa3 _ _ (by decide)];exact hI2.out.1.1
    ·have h8:vs 8=pq g 0:=hI.2 8 _ rfl (hwt 8 (by kernel_rfl));have n2:L.getD 17 false=false:=hcl.nd hun2 (by kernel_rfl);have hw:w8=stg L 14 W.drew W1:=hI.1.trans (qa8 _ _ n2);have hI2:=lh (And.intro hI (And.intro hls hw));clear hI hwt hun hun2 hcl hls n2 hw;change Made _ _ (Sem.run _ (execOp (Act.eval (Act.put (frm _ _ _ []) (some 24) (vs 8))) _) _);simp only[frm,h8];go_simp;refine qa5 ⟨?_,hI2.out.1.2.put fun x hx=>by cases hx;rfl⟩;rw[qa3 _ _ (by decide),qa3 _ _ (by decide)];exact hI2.out.1.1
    ·have h9:vs 9=pq g 0:=hI.2 9 _ rfl (hwt 9 (by kernel_rfl));have n2:L.getD 17 false=false:=hcl.nd hun2 (by kernel_rfl);have hw:w8=stg L 14 W.drew W1:=hI.1.trans (qa8 _ _ n2);have hI2:=lh (And.intro hI (And.intro hls hw));clear hI hwt hun hun2 hcl hls n2 hw;change Made _ _ (Sem.run _ (execOp (Act.eval (Act.put (frm _ _ _ []) (some 25) (vs 9))) _) _);simp only[frm,h9];go_simp;refine qa5 ⟨?_,hI2.out.1.2.put fun x hx=>by cases hx;rfl⟩;rw[qa3 _ _ (by decide),qa3 _ _ (by decide)];exact hI2.out.1.1
    ·have h10:vs 10=pq g 0:=hI.2 10 _ rfl (hwt 10 (by kernel_rfl));have n2:L.getD 17 false=false:=hcl.nd hun2 (by kernel_rfl);have hw:w8=stg L 14 W.drew W1:=hI.1.trans (qa8 _ _ n2);have ec:w8.cell? ⟨g,0,none⟩=some (.slice (some ⟨bb,o,none⟩) b.length c):=by rw[hw];exact qb8 (fun w:World=>cl w g 0 (.slice (some ⟨bb,o,none⟩) b.length c:Value)) HF2.o.1 HF2.o.2.2.2.1
     have hI2:=lh (And.intro hI (And.intro hls hw));clear hI hwt hun hun2 hcl hls n2 hw;change Made _ _ (Sem.run _ (execOp (Act.eval (Act.put (frm _ _ _ []) (some 26) (vs 10))) _) _);simp only[frm,h10];go_simp;refine qa5 ⟨?_,hI2.out.1.2.put fun x hx=>by cases hx;rfl⟩;rw[qa3 _ _ (by decide),qa3 _ _ (by decide)];exact hI2.out.1.1
    ·have n2:L.getD 17 false=false:=hcl.nd hun2 (by kernel_rfl);have hw:w8=stg L 14 W.drew W1:=hI.1.trans (qa8 _ _ n2);have ec:w8.cell? ⟨q,0,none⟩=some (uv (N:Int)):=by rw[hw];exact qb8 (fun w:World=>cl w q 0 (uv (N:Int):Value)) HF2.o.2.2.1 HF2.o.2.2.2.2.2
     have hI2:=lh (And.intro hI (And.intro hls hw));clear hI hwt hun hun2 hcl hls n2 hw;change Made _ _ (Sem.run _ (execOp (Act.eval (frm _ _ _ [])) _) _);simp only[frm];go_simp;refine qa5 ⟨?_,hI2.out.1.2.put fun x hx=>by cases hx;rfl⟩;rw[qa3 _ _ (by decide),qa3 _ _ (by decide)];exact hI2.out.1.1
    ·have h11:vs 11=.slice (some ⟨bb,o,none⟩) b.length c:=hI.2 11 _ rfl (hwt 11 (by kernel_rfl));have h12:vs 12=uv (N:Int):=hI.2 12 _ rfl (hwt 12 (by kernel_rfl));have n2:L.getD 17 false=false:=hcl.nd hun2 (by kernel_rfl);have hw:w8=stg L 14 W.drew W1:=hI.1.trans (qa8 _ _ n2);have hlt9:N < c:=by omega
     have hcn:¬ c=N:=by omega
     have hI2:=lh (And.intro hI (And.intro hls hw));clear hI hwt hun hun2 hcl hls n2 hw;change Made _ _ (Sem.run _ (execOp (Act.eval (Act.put (Act.put (frm _ _ _ []) (some 28) (vs 12)) (some 27) (vs 11))) _) _);simp only[frm,h11,h12];go_simp;refine qa5 ⟨?_,hI2.out.1.2.put fun x hx=>by cases hx;rfl⟩;rw[qa3 _ _ (by decide),qa3 _ _ (by decide)];exact hI2.out.1.1
    ·have h7:vs 7=.string S:=hI.2 7 _ rfl (hwt 7 (by kernel_rfl));have n2:L.getD 17 false=false:=hcl.nd hun2 (by kernel_rfl);have hw:w8=W.drew:=hI.1.trans ((qa8 _ _ n2).trans (qa8 _ _ hun2));subst hw;have es:=HF.o.2.2.2.2.2.2.1;have ef:=HF.o.2.2.2.2.2.2.2.1;have hI2:=lh (And.intro hI (And.intro hls n2));clear hI hwt hun hun2 hcl hls n2;change Made _ _ (Sem.run _ (execOp (Act.eval (Act.put (frm _ _ _ []) (some 23) (vs 7))) _) _);simp only[frm,h7];go_simp;refine qa7 ⟨?_,hI2.out.1.2.put fun x hx=>by cases hx⟩;rw[qa3 _ _ (by decide),qa8 _ _ hI2.out.2.2,qj5 _ _ (by rw[hI2.out.2.1];decide)];exact HW1.o.symm
    ·have h0:vs 0=pq g 0:=hI.2 0 _ rfl (hwt 0 (by kernel_rfl));have n16_:L.getD 16 false=false:=hcl.nd hun2 (by kernel_rfl);have n2:L.getD 17 false=false:=hcl.nd n16_ (by kernel_rfl);have hw:w8=stg L 14 W.drew W1:=hI.1.trans (qa8 _ _ n2);have hI2:=lh (And.intro hI (And.intro hls hw));clear hI hwt hun hun2 hcl hls n2 hw;change Made _ _ (Sem.run _ (execOp (Act.eval (Act.put (frm _ _ _ []) (some 16) (vs 0))) _) _);simp only[frm,h0];go_simp;refine qa5 ⟨?_,hI2.out.1.2.put fun x hx=>by cases hx;rfl⟩;rw[qa3 _ _ (by decide),qa3 _ _ (by decide)];exact hI2.out.1.1
    ·have h15:vs 15=pq g 0:=hI.2 15 _ rfl (hwt 15 (by kernel_rfl));have n2:L.getD 17 false=false:=hcl.nd hun2 (by kernel_rfl);have hw:w8=stg L 14 W.drew W1:=hI.1.trans (qa8 _ _ n2);have hI2:=lh (And.intro hI (And.intro hls hw));clear hI hwt hun hun2 hcl hls n2 hw;change Made _ _ (Sem.run _ (execOp (Act.eval (Act.put (frm _ _ _ []) (some 30) (vs 15))) _) _);simp only[frm,h15];go_simp;refine qa5 ⟨?_,hI2.out.1.2.put fun x hx=>by cases hx;rfl⟩;rw[qa3 _ _ (by decide),qa3 _ _ (by decide)];exact hI2.out.1.1
    ·have h13:vs 13=.slice (some ⟨bb,o+N,none⟩) (b.length - N) (c - N):=hI.2 13 _ rfl (hwt 13 (by kernel_rfl));have h16:vs 16=pq g 0:=hI.2 16 _ rfl (hwt 16 (by kernel_rfl));have hw:w8=W1:=hI.1.trans ((qa8 _ _ hun2).trans (qh0 _ _ (hwt 14 (by kernel_rfl))));subst hw;have es:=HF2.o.2.2.2.1;have ef:=HF.o.2.2.2.2.2.2.2.2;have hI2:=lh (And.intro hI hls);clear hI hwt hun hun2 hcl hls;change Made _ _ (Sem.run _ (execOp (Act.eval (Act.put (Act.put (frm _ _ _ []) (some 31) (vs 16)) (some 29) (vs 13))) _) _);simp only[frm,h13,h16];go_simp;refine qa7 ⟨?_,hI2.out.1.2.put fun x hx=>by cases hx⟩;rw[qj5 _ _ (by rw[hI2.out.2];decide)];exact HW2.o.symm
   ·intro L vs w8 hls hall hI;have hw:w8=W2:=hI.1.trans (qh0 _ _ (hall 17 (by decide)));have h0:vs 0=pq g 0:=hI.2 0 _ rfl (hall 0 (by decide));have h1:vs 1=pq g 0:=hI.2 1 _ rfl (hall 1 (by decide));have h2:vs 2=pq g 0:=hI.2 2 _ rfl (hall 2 (by decide));have h3:vs 3=pq g 0:=hI.2 3 _ rfl (hall 3 (by decide));have h4:vs 4=.slice (some ⟨bb,o,none⟩) b.length c:=hI.2 4 _ rfl (hall 4 (by decide));have h5:vs 5=uv (N:Int):=hI.2 5 _ rfl (hall 5 (by decide));have h6:vs 6=.slice (some ⟨bb,o,none⟩) N c:=hI.2 6 _ rfl (hall 6 (by decide));have h7:vs 7=.string S:=hI.2 7 _ rfl (hall 7 (by decide));have h8:vs 8=pq g 0:=hI.2 8 _ rfl (hall 8 (by decide));have h9:vs 9=pq g 0:=hI.2 9 _ rfl (hall 9 (by decide));have h10:vs 10=pq g 0:=hI.2 10 _ rfl (hall 10 (by decide));have h11:vs 11=.slice (some ⟨bb,o,none⟩) b.length c:=hI.2 11 _ rfl (hall 11 (by decide));have h12:vs 12=uv (N:Int):=hI.2 12 _ rfl (hall 12 (by decide));have h13:vs 13=.slice (some ⟨bb,o+N,none⟩) (b.length - N) (c - N):=hI.2 13 _ rfl (hall 13 (by decide));have h15:vs 15=pq g 0:=hI.2 15 _ rfl (hall 15 (by decide));have h16:vs 16=pq g 0:=hI.2 16 _ rfl (hall 16 (by decide));change wpList _ _ _ [] (Act.put (Act.put (Act.put (Act.put (Act.put (Act.put (Act.put (Act.put (Act.put (Act.put (Act.put (Act.put (Act.put (Act.put (Act.put (Act.put (Act.put (Act.put (frm _ _ _ []) none (vs 17)) (some 31) (vs 16)) (some 30) (vs 15)) none (vs 14)) (some 29) (vs 13)) (some 28) (vs 12)) (some 27) (vs 11)) (some 26) (vs 10)) (some 25) (vs 9)) (some 24) (vs 8)) (some 23) (vs 7)) (some 22) (vs 6)) (some 21) (vs 5)) (some 20) (vs 4)) (some 19) (vs 3)) (some 18) (vs 2)) (some 17) (vs 1)) (some 16) (vs 0)) _;simp only[frm,h0,h1,h2,h3,h4,h5,h6,h7,h8,h9,h10,h11,h12,h13,h15,h16];generalize vs 14=vz14;generalize vs 17=vz17;rw[hw];clear hw hI hall hls h0 h1 h2 h3 h4 h5 h6 h7 h8 h9 h10 h11 h12 h13 h15 h16;clear hN63 hw2
    have HSD:Hid (Sl W2 1 (some ⟨bb,o+N,none⟩) (b.drop N).length (qh2 (b.drop N))):=lh (by
     refine⟨by rw[qm6,Nat.mul_one],?_⟩;rcases HSL.o.2 with h0 | ⟨b',o',e,hbl,hc⟩
     ·have h0b:b.length=0:=h0
      left;rw[List.length_drop];omega
     ·cases e;refine .inr ⟨bb,o+N,rfl,Nat.lt_of_lt_of_le hbl (by rw[HW2.o,HW1.o];simp),fun j x hx=>?_⟩;rw[HW2.o,HW1.o]
      have h1:(qh2 b)[N+j]?=some x:=by
       unfold qh2 at hx ⊢;rw[List.getElem?_map] at hx ⊢;rw[List.getElem?_drop] at hx;exact hx
      have h2:=hc (N+j) x h1;rw[show o+(N+j)=o+N+j by omega] at h2;refine(World.cell?_of_block (a:=⟨bb,o+N+j,none⟩) ?_).trans h2
      exact(Below.heap_setCell _ _ _ _ (fun e=>H.o.ne e)).trans (Below.heap_setCell _ _ _ _ (fun e=>hsb e.symm)))
    have HK2:Hid (Kp (fun k=>k=g ∨ k=s) w W2):=lh (by rw[HW2.o];exact(HB1.o.2.2.mono (T:=fun k=>k=g ∨ k=s) fun _ _ h=>.inr h).trans (Kp.setCell (S:=fun k=>k=g) _ ⟨g,0,none⟩ _ rfl) fun _ _ h=>.inl h);have HS2:Hid (Bk W2 s 9 #[.string S]):=lh (by rw[HW2.o];exact HB1.o.2.1.far (p:=⟨g,0,none⟩) (fun e=>HNE.o.1 e.symm) _);have HHSZ:=lh HSL;clear HF HF2 HCW
    go_wp2_with fail
    go_ret;exact⟨rfl,⟨some ⟨bb,o+N,none⟩,c - N,⟨by rw[HW2.o];dsimp only;rw[List.length_drop];exact HB1.o.1.set 0 _,by dsimp only;rw[List.length_drop];exact Nat.sub_le_sub_right hcp N,Nat.le_trans (Nat.sub_le c N) hcm,HSD.o,fun b o m e=>(by cases e;exact⟨rfl,rfl⟩),fun e=>(by cases e),H.o.ne,H.o.b8.drop N⟩⟩,by have h9:=HS2.o;rw[HS.o] at h9;exact h9,HK2.o⟩
end
end
end Go.Proofs.YtmbnlccafcfbeaaGreatDoor
