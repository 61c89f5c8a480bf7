/- Parts of the proof: SepC, SepP. -/
import Derived.Test.YtaijmgkjbbiboaaGreatPcA
import Derived.Test.YtaijmgkjbbiboaaGreatPc18
set_option linter.unusedVariables false
set_option linter.unusedSimpArgs false
set_option linter.unusedSectionVars false
set_option maxRecDepth 100000
namespace Go.Proofs.YtaijmgkjbbiboaaGreat
section
open Go.RowKit
/-- how the region goes on when just the first m operations have come up -/
def Phase2 (P:Program) (ops:Array Oper) (Q:Exit→Act→World→Prop) (m:Nat) (a:Act) (w:World):Prop :=
 ∀ L:Array Bool,L.size=ops.size→(∀ j,j < m→L.getD j false=true)→(∀ j,m≤j→j < ops.size→L.getD j true=false)→∀ f,((List.range ops.size).filter fun i=>!L.getD i true).length=f→wpAny P .any ops Q f L a w
/-- the normal end goes on by K -/
def normalTo (K:Act→World→Prop) (Q:Exit→Act→World→Prop):Exit→Act→World→Prop
 | .normal,a,w=>K a w
 | e,a,w=>Q e a w
theorem normalTo_normal {K:Act→World→Prop} {Q:Exit→Act→World→Prop} {a:Act} {w:World}:normalTo K Q .normal a w=K a w:=rfl
theorem wp_exits {P:Program} {o:Oper} {a:Act} {w:World} {K K':Act→World→Prop} {Q Q':Exit→Act→World→Prop} (h:o.wp P a w K Q) (hK:∀ a w,K a w→K' a w) (hp:∀ c a w,Q (.panic c) a w→Q' (.panic c) a w) (hl:LetsOut Q→LetsOut Q'):o.wp P a w K' Q':=by
 unfold Oper.wp at h ⊢
 generalize (execOp a.eval o).run P w=r at h
 cases r with
 | ok nx w' =>
  cases nx <;> simp only[Oper.upon] at h ⊢
  case value v=>exact hK _ _ h
  case skip=>exact hK _ _ h
  case defer d=>exact hK _ _ h
  case row row args=>exact Rows.mono h fun v w'' hv=>hK _ _ hv
  case enter f args =>
   refine Calls.mono h fun e w'' he=>?_
   cases e with
   | returned v=>exact hK _ _ he
   | panicked c=>exact hp _ _ _ he
   | outgrown=>exact hl he
 | halt x w'=>cases x <;> simp only[Oper.upon] at h ⊢ <;> first | exact h.elim | exact hp _ _ _ h
section
variable {P:Program} {ops:Array Oper} {N n:Nat} {ds eats:Nat→List Nat} {fl:Nat→Bool} {md:Nat} {W:World} {B:Nat} {ini:Nat→Option Nat} {a0:Act} {Q:Exit→Act→World→Prop} {ob:Nat→Value→Option Nat} {R:Nat→(Nat→Value)→Value→World→Prop}
/-- .. from a state in which the first m have come up -/
theorem wpAny_from (hs:SepB ops N n ds eats fl md) (hmd:md≠2) (m:Nat) (hN:∀ i,i < n→∀ d,dstOf ops i=some d→d < a0.tmps.size)
  (hgd:∀ i,m≤i→i < n→∀ o,ops[i]?=some o→∀ g b,o.guard=some (g,b)→∀ vs v w,R g vs v w→v=.bool b)
  (hdep:∀ i vs vs' v w,i < n→(∀ j∈ds i,vs j=vs' j)→R i vs v w→R i vs' v w)
  (hloc:∀ i vs v w w',i < n→R i vs v w→Below B W w→Below B W w'→w.heap.size≤w'.heap.size→(∀ k,ob i v=some k→w'.heap[k]?=w.heap[k]?)→((∀ i,eats i=[])→Below w.heap.size w w')→R i vs v w')
  (hstep:∀ i,m≤i→i < n→∀ o,ops[i]?=some o→∀ vs w,(∀ k,k < W.heap.size→(∀ i,ini i≠some k)→w.heap[k]?=W.heap[k]?)→GivenB (fun j=>R j vs) ob W B (ini i) vs (ds i) w→Made P (LaysB (fun j=>R j vs) ob B ini vs (eats i) i w) ((execOp (frm ops a0 vs (ds i)).eval o).run P w))
  (htail:∀ (f:Nat) (L:Array Bool) (a:Act) (w:World) (vs:Nat→Value),SInv ops N n eats R ob W B ini a0 vs L a w→n∈Region.ready .any ops L→((List.range N).filter fun i=>!(L.setIfInBounds n true).getD i true).length=f→wpOp P ops Q n (wpAny P .any ops Q f (L.setIfInBounds n true)) a w) :
  ∀ (f:Nat) (L:Array Bool) (a:Act) (w:World) (vs:Nat→Value),SInv ops N n eats R ob W B ini a0 vs L a w→(∀ j,j < m→L.getD j false=true)→((List.range N).filter fun i=>!L.getD i true).length=f→wpAny P .any ops Q f L a w:=by
 intro f
 induction f with
 | zero =>
  intro L a w vs inv hm hf
  have:n∈(List.range N).filter fun i=>!L.getD i true:=List.mem_filter.2 ⟨List.mem_range.2 (hs.lt hmd),by rw[inv.nlast n (Nat.le_refl _) (hs.lt hmd)];rfl⟩
  rw[List.length_eq_zero_iff.1 hf] at this
  cases this
 | succ f ih =>
  intro L a w vs inv hm hf
  refine⟨fun h0=>?_,fun i hr=>?_⟩
  ·exfalso
   obtain⟨i,_,h4,_⟩:=least_ready hs inv.lsize (hs.lt hmd) (getD_both (inv.nlast n (Nat.le_refl _) (hs.lt hmd)))
   rw[h0] at h4
   cases h4
  ·have hcnt:=count_step inv.lsize hr hf
   have hlt:=ready_lt hr
   rw[inv.lsize] at hlt
   by_cases hin:i < n
   ·obtain⟨hun,o,ho,hall⟩:=mem_ready.1 hr
    have hmi:m≤i:=by
     rcases Nat.lt_or_ge i m with h | h
     ·have:=hm i h
      rw[getD_both hun] at this
      cases this
     ·exact h
    unfold wpOp
    rw[ho]
    simp only[]
    have hw:Region.wanted o (yielded ops a.tmps)=true:=by
     unfold Region.wanted
     cases hgb:o.guard with
     | none=>rfl
     | some p =>
      obtain⟨g,b⟩:=p
      have hgi:=hs.guard i hin o ho g b hgb
      have hgl:L.getD g false=true:=waits_listed hr (hs.dep i hin g hgi)
      have hgn:g < n:=by
       have hw:=hs.dep i hin g hgi
       unfold waits at hw
       rw[ho] at hw
       obtain⟨e,he,hb⟩:=Array.any_eq_true'.1 hw
       simp only[Bool.and_eq_true,beq_iff_eq] at hb
       have:=hs.back i (by have:=hs.le;omega) o ho e he hb.1
       omega
      have hv:=hgd i hmi hin o ho g b hgb _ _ _ ((inv.given hs hin hr).2.2.1 g hgi).1
      obtain⟨d,hd⟩:=hs.dst g hgn
      have hsl:=inv.slot g hgn hgl d hd (hN g hgn d hd)
      have hy:yielded ops a.tmps g=some b:=by
       unfold yielded
       unfold dstOf at hd
       simp only[hd,Option.bind_some,hsl,hv]
      simp only[hy]
      exact beq_self_eq_true _
    rw[if_pos hw]
    refine .inl ?_
    have hdo:dstOf ops i=o.dst:=by unfold dstOf;rw[ho];rfl
    have hsel:=Region.noSelect_spec hs.sel
    have hex:execOp a.eval o=execOp (frm ops a0 vs (ds i)).eval o:=execOp_congr o (fun cs b=>hsel i o cs b ho) (put_operand fun d hd=>by
     have hdl:∀ j∈ds i,L.getD j false=true:=fun j hj=>waits_listed hr (hs.dep i hin j hj)
     have hdlt:∀ j∈ds i,j < n:=fun j hj=>by
      have hw:=hs.dep i hin j hj
      unfold waits at hw
      rw[ho] at hw
      obtain⟨e,he,hb⟩:=Array.any_eq_true'.1 hw
      simp only[Bool.and_eq_true,beq_iff_eq] at hb
      have:=hs.back i (by have:=hs.le;omega) o ho e he hb.1
      omega
     by_cases h:∃ j,j < n∧dstOf ops j=some d
     ·obtain⟨j,hj,hjd⟩:=h
      have hm:=hs.opnd i hin o ho d hd j hj hjd
      rw[frm_slot hs vs (ds i) hdlt j hm d hjd (hN j hj d hjd),inv.slot j hj (hdl j hm) d hjd (hN j hj d hjd)]
     ·rw[frm_rest vs (ds i) d fun j hj hjd=>h ⟨j,hdlt j hj,hjd⟩,inv.rest d fun j hj _ hjd=>h ⟨j,hj,hjd⟩])
    refine wp_of_made (T:=LaysB (fun j=>R j vs) ob B ini vs (eats i) i w) (by rw[hex];exact hstep i hmi hin o ho vs w inv.kp (inv.given hs hin hr)) fun v w' hl=>?_
    have inv':=inv.step hs hdep hloc hin hr hl
    rw[hdo] at inv'
    exact ih _ _ _ _ inv' (fun j hj=>getD_set_true (hm j hj)) hcnt
   ·obtain rfl:i=n:=by
     rcases Nat.lt_or_ge n i with h | h
     ·obtain⟨g,hg⟩:=hs.late i h hlt
      have h4:=sinks_listed hr (fun k hk hkl j hj=>by
       rcases Nat.lt_or_ge k n with hkn | hkn
       ·exact inv.closed k hkn hkl j hj
       ·have:=getD_both (inv.nlast k hkn (by omega))
        rw[hkl] at this
        cases this) g n hg
      have h5:=getD_both (inv.nlast n (Nat.le_refl _) (by omega))
      rw[h4] at h5
      cases h5
     ·omega
    exact htail f L a w vs inv hr hcnt
/-- **The first part**: the operations ahead of n only add memory; n comes up behind them all, and all others behind n. -/
theorem wp_region_first {id:Nat} {a0:Act} {W:World} {l:List Oper} (n:Nat) (ds:Nat→List Nat) (E:Nat→Ent W) (hm:P.follows .mixedOrders=true) (hBB:sepG true l.toArray l.length n ds (fun _=>[]) (fun _=>false) 1=true)
  (hb:bareB l (n+1)=true)
  (hdl:(List.range n).all (fun i=>(E i).dl.all ((ds i).contains ·))=true)
  (hN:(List.range n).all (fun i=>match dstOf l.toArray i with | some d=>decide (d < a0.tmps.size) | none=>true)=true)
  (hstep:∀ i,i < n→∀ o,l[i]?=some o→∀ vs w,Below W.heap.size W w→(∀ j∈ds i,(E j).R vs (vs j) w)→Made P (Adds (E i) vs w) ((execOp (frm l.toArray a0 vs (ds i)).eval o).run P w))
  (hend:∀ vs w,Below W.heap.size W w→(∀ i,i < n→(E i).R vs (vs i) w∧∀ k,(E i).ob (vs i)=some k→W.heap.size≤k∧k < w.heap.size)→(∀ i,i < n→∀ i',i' < n→i≠i'→∀ k,(E i).ob (vs i)=some k→(E i').ob (vs i')≠some k)→wpList P l.toArray (normalTo (Phase2 P l.toArray Q (n+1)) Q) ((l.drop n).take 1) (frm l.toArray a0 vs (List.range n)) w) :
  (Code.region id l.toArray true).wp P Q a0 W:=by
 have hs:=SepB.ofG hBB
 have hbare:∀ i,i < n+1→∀ o,l[i]?=some o→o.guard=none:=fun i hi o ho=>by
  have:=List.all_eq_true.1 hb i (List.mem_range.2 hi)
  rw[ho] at this
  simpa using this
 have hN':∀ i,i < n→∀ d,dstOf l.toArray i=some d→d < a0.tmps.size:=fun i hi d hd=>by
  have:=List.all_eq_true.1 hN i (List.mem_range.2 hi)
  rw[hd] at this
  simpa using this
 refine wp_region_any hm ?_
 refine wpAny_pre (W:=W) (R:=fun i=>(E i).R) (ob:=fun i=>(E i).ob) (B:=W.heap.size) (ini:=fun _=>none) hs (by decide) hN' (fun i hi o ho g b hgb=>by rw[hbare i (by omega) o (by simpa using ho)] at hgb;cases hgb)
  (fun i vs vs' v w hi hj h=>(E i).dep vs vs' v w (fun j hj'=>hj j (by
   have:=List.all_eq_true.1 (List.all_eq_true.1 hdl i (List.mem_range.2 hi)) j hj'
   simpa using this)) h)
  (fun i vs v w w' _ hR hb hb' _ _ hx=>(E i).loc vs v w w' hR hb (hx fun _=>rfl))
  (fun i hi o ho vs w _ hg=>(hstep i hi o (by simpa using ho) vs w hg.2.1 fun j hj=>(hg.2.2.1 j hj).1).mono fun v w' h=>⟨h.1,h.2.1.os,h.2.1.tape,h.2.1.output,h.2.1.size,fun k hk _=>h.2.1.block k hk,fun k hk=>⟨(h.2.2 k hk).2,Nat.le_trans hg.2.1.size (h.2.2 k hk).1,.inl (h.2.2 k hk).1⟩⟩)
  (fun f L a w vs inv hr hcnt=>?_) _ _ _ _ (fun _=>undef) ⟨rfl,rfl,fun i _ h=>?_,fun _ _=>rfl,⟨rfl,rfl,rfl,Nat.le_refl _,fun _ _=>rfl⟩,fun i _ h=>?_,fun i _ h=>?_,by simp,fun j hj hj'=>by simp[hj'],Nat.le_refl _,(fun _ _ h=>by cases h),(fun _ _ _ h=>by cases h),(fun _ _ _ _=>rfl),fun i _ k _ j _ h=>?_,fun k _ h=>?_,fun _ _ _=>rfl,fun i _ h=>?_⟩ ?_
 ·have hall:∀ j,j < n→L.getD j false=true:=fun j hj=>sinks_listed hr inv.closed _ j (hs.last (by decide) j hj rfl)
  have hae:a=frm l.toArray a0 vs (List.range n):=by
   have h1:a.tmps=(frm l.toArray a0 vs (List.range n)).tmps:=by
    refine Array.ext_getElem? fun d=>?_
    by_cases h:∃ j,j < n∧dstOf l.toArray j=some d
    ·obtain⟨j,hj,hjd⟩:=h
     rw[frm_slot hs vs (List.range n) (fun k hk=>List.mem_range.1 hk) j (List.mem_range.2 hj) d hjd (hN' j hj d hjd),inv.slot j hj (hall j hj) d hjd (hN' j hj d hjd)]
    ·rw[frm_rest vs (List.range n) d fun j hj hjd=>h ⟨j,List.mem_range.1 hj,hjd⟩,inv.rest d fun j hj _ hjd=>h ⟨j,hj,hjd⟩]
   have h2:a.defers=(frm l.toArray a0 vs (List.range n)).defers:=by rw[frm_defers,inv.defers]
   cases a
   cases hq:frm l.toArray a0 vs (List.range n)
   rw[hq] at h1 h2
   simp only at h1 h2
   rw[h1,h2]
  have hfin:=hend vs w inv.below (fun j hj=>inv.holds j hj (hall j hj) fun m _ _ h=>by cases h) fun j hj j' hj' hne=>inv.apart j hj (hall j hj) (fun m _ _ h=>by cases h) j' hj' (hall j' hj') (fun m _ _ h=>by cases h) hne
  rw[← hae] at hfin
  obtain⟨hun,o,ho,_⟩:=mem_ready.1 hr
  have hol:l[n]?=some o:=by simpa using ho
  have hg:=hbare n (by omega) o hol
  have hlt:=ready_lt hr
  rw[inv.lsize] at hlt
  have hdr:(l.drop n).take 1=[o]:=by
   rw[List.drop_eq_getElem_cons hlt]
   have:=List.getElem?_eq_getElem hlt
   rw[hol] at this
   simp[← Option.some.inj this]
  rw[hdr] at hfin
  unfold wpList at hfin
  rw[if_pos (by simp[Region.wanted,hg])] at hfin
  unfold wpOp
  rw[ho]
  simp only[]
  rw[if_pos (by simp[Region.wanted,hg])]
  refine hfin.imp (fun h=>wp_exits h (fun a' w' h2=>?_) (fun _ _ _ h=>h) (fun h=>h)) fun h=>h
  have h3:Phase2 P l.toArray Q (n+1) a' w':=by simpa [wpList,normalTo] using h2
  refine h3 _ (by simp[inv.lsize]) (fun j hj=>?_) (fun j hj hj'=>?_) f (by simpa using hcnt)
  ·by_cases hjn:n=j
   ·subst hjn;exact getD_set_self (by rw[inv.lsize];exact hlt) false
   ·exact getD_set_true (hall j (by omega))
  ·rw[getD_set_ne true (by omega)]
   exact inv.nlast j (by omega) (by simpa using hj')
 ·rw[getD_replicate_false] at h;cases h
 ·rw[getD_replicate_false] at h;cases h
 ·rw[getD_replicate_false] at h;cases h
 ·rw[getD_replicate_false] at h;cases h
 ·rw[getD_replicate_false] at h;cases h
 ·rw[getD_replicate_false] at h;cases h
 ·rw[hs.size]
  have:((List.range l.length).filter fun i=>!(Array.replicate l.length false).getD i true)=List.range l.length:=by
   refine List.filter_eq_self.2 fun i hi=>?_
   have:=List.mem_range.1 hi
   simp[this]
  rw[this]
  simp
/-- **A region that draws its order, all of whose operations only add memory.** -/
theorem wp_region_all {id:Nat} {a0:Act} {W:World} {l:List Oper} {Q:Exit→Act→World→Prop} (n:Nat) (ds:Nat→List Nat) (E:Nat→Ent W) (hm:P.follows .mixedOrders=true) (hBB:sepG true l.toArray l.length n ds (fun _=>[]) (fun _=>true) 2=true) (hn:l.length=n) (hb:bareB l n=true)
  (hdl:(List.range n).all (fun i=>(E i).dl.all ((ds i).contains ·))=true)
  (hN:(List.range n).all (fun i=>match dstOf l.toArray i with | some d=>decide (d < a0.tmps.size) | none=>true)=true)
  (hstep:∀ i,i < n→∀ o,l[i]?=some o→∀ vs w,Below W.heap.size W w→(∀ j∈ds i,(E j).R vs (vs j) w)→Made P (Adds (E i) vs w) ((execOp (frm l.toArray a0 vs (ds i)).eval o).run P w))
  (hend:∀ vs w,Below W.heap.size W w→(∀ i,i < n→(E i).R vs (vs i) w∧∀ k,(E i).ob (vs i)=some k→W.heap.size≤k∧k < w.heap.size)→(∀ i,i < n→∀ i',i' < n→i≠i'→∀ k,(E i).ob (vs i)=some k→(E i').ob (vs i')≠some k)→wpList P l.toArray Q [] (frm l.toArray a0 vs (List.range n)) w) :
  (Code.region id l.toArray true).wp P Q a0 W:=by
 have hs:=SepB.ofG hBB
 have hN':∀ i,i < n→∀ d,dstOf l.toArray i=some d→d < a0.tmps.size:=fun i hi d hd=>by
  have:=List.all_eq_true.1 hN i (List.mem_range.2 hi)
  rw[hd] at this
  simpa using this
 have key:∀ (f:Nat) (L:Array Bool) (a:Act) (w:World) (vs:Nat→Value),SInv l.toArray l.length n (fun _=>[]) (fun i=>(E i).R) (fun i=>(E i).ob) W W.heap.size (fun _=>none) a0 vs L a w→((List.range l.length).filter fun i=>!L.getD i true).length=f→wpAny P .any l.toArray Q f L a w:=by
  intro f
  induction f with
  | zero =>
   intro L a w vs inv hf
   have hall:∀ j,j < n→L.getD j false=true:=fun j hj=>by
    cases h1:L.getD j false with
    | true=>rfl
    | false =>
     have h2:L.getD j true=false:=getD_in (by rw[inv.lsize];omega) h1
     have:j∈(List.range l.length).filter fun i=>!L.getD i true:=List.mem_filter.2 ⟨List.mem_range.2 (by omega),by rw[h2];rfl⟩
     rw[List.length_eq_zero_iff.1 hf] at this
     cases this
   have hae:a=frm l.toArray a0 vs (List.range n):=by
    have h1:a.tmps=(frm l.toArray a0 vs (List.range n)).tmps:=by
     refine Array.ext_getElem? fun d=>?_
     by_cases h:∃ j,j < n∧dstOf l.toArray j=some d
     ·obtain⟨j,hj,hjd⟩:=h
      rw[frm_slot hs vs (List.range n) (fun k hk=>List.mem_range.1 hk) j (List.mem_range.2 hj) d hjd (hN' j hj d hjd),inv.slot j hj (hall j hj) d hjd (hN' j hj d hjd)]
     ·rw[frm_rest vs (List.range n) d fun j hj hjd=>h ⟨j,List.mem_range.1 hj,hjd⟩,inv.rest d fun j hj _ hjd=>h ⟨j,hj,hjd⟩]
    have h2:a.defers=(frm l.toArray a0 vs (List.range n)).defers:=by rw[frm_defers,inv.defers]
    cases a
    cases hq:frm l.toArray a0 vs (List.range n)
    rw[hq] at h1 h2
    simp only at h1 h2
    rw[h1,h2]
   refine⟨List.eq_nil_iff_forall_not_mem.2 fun j hj=>?_,?_⟩
   ·have h0:=(mem_ready.1 hj).1
    have hlt:=ready_lt hj
    rw[getD_both' hlt (hall j (by rw[inv.lsize] at hlt;omega))] at h0
    cases h0
   ·rw[hae]
    exact hend vs w inv.below (fun j hj=>inv.holds j hj (hall j hj) fun m _ _ h=>by cases h) fun j hj j' hj' hne=>inv.apart j hj (hall j hj) (fun m _ _ h=>by cases h) j' hj' (hall j' hj') (fun m _ _ h=>by cases h) hne
  | succ f ih =>
   intro L a w vs inv hf
   refine⟨fun h0=>?_,fun i hr=>?_⟩
   ·exfalso
    obtain⟨j,hj⟩:∃ j,j∈(List.range l.length).filter fun i=>!L.getD i true:=by
     cases hl:(List.range l.length).filter fun i=>!L.getD i true with
     | nil=>rw[hl] at hf;cases hf
     | cons j l=>exact⟨j,List.mem_cons_self ..⟩
    obtain⟨h1,h2⟩:=List.mem_filter.1 hj
    obtain⟨i,_,h4,_⟩:=least_ready hs inv.lsize (List.mem_range.1 h1) (getD_both (by simpa using h2))
    rw[h0] at h4
    cases h4
   ·have hcnt:=count_step inv.lsize hr hf
    have hlt:=ready_lt hr
    rw[inv.lsize] at hlt
    have hin:i < n:=by omega
    obtain⟨hun,o,ho,hall⟩:=mem_ready.1 hr
    have hol:l[i]?=some o:=by simpa using ho
    have hg:o.guard=none:=by
     have:=List.all_eq_true.1 hb i (List.mem_range.2 hin)
     rw[hol] at this
     simpa using this
    unfold wpOp
    rw[ho]
    simp only[]
    rw[if_pos (by simp[Region.wanted,hg])]
    refine .inl ?_
    have hdo:dstOf l.toArray i=o.dst:=by unfold dstOf;rw[ho];rfl
    have hsel:=Region.noSelect_spec hs.sel
    have hex:execOp a.eval o=execOp (frm l.toArray a0 vs (ds i)).eval o:=execOp_congr o (fun cs b=>hsel i o cs b ho) (put_operand fun d hd=>by
     have hdl:∀ j∈ds i,L.getD j false=true:=fun j hj=>waits_listed hr (hs.dep i hin j hj)
     have hdlt:∀ j∈ds i,j < n:=fun j hj=>by
      have hw:=hs.dep i hin j hj
      unfold waits at hw
      rw[ho] at hw
      obtain⟨e,he,hb⟩:=Array.any_eq_true'.1 hw
      simp only[Bool.and_eq_true,beq_iff_eq] at hb
      have:=hs.back i (by have:=hs.le;omega) o ho e he hb.1
      omega
     by_cases h:∃ j,j < n∧dstOf l.toArray j=some d
     ·obtain⟨j,hj,hjd⟩:=h
      have hm:=hs.opnd i hin o ho d hd j hj hjd
      rw[frm_slot hs vs (ds i) hdlt j hm d hjd (hN' j hj d hjd),inv.slot j hj (hdl j hm) d hjd (hN' j hj d hjd)]
     ·rw[frm_rest vs (ds i) d fun j hj hjd=>h ⟨j,hdlt j hj,hjd⟩,inv.rest d fun j hj _ hjd=>h ⟨j,hj,hjd⟩])
    have hg2:=inv.given hs hin hr
    refine wp_of_made (T:=LaysB (fun j=>(E j).R vs) (fun j=>(E j).ob) W.heap.size (fun _=>none) vs [] i w) (by
     rw[hex]
     exact(hstep i hin o hol vs w hg2.2.1 fun j hj=>(hg2.2.2.1 j hj).1).mono fun v w' h=>⟨h.1,h.2.1.os,h.2.1.tape,h.2.1.output,h.2.1.size,fun k hk _=>h.2.1.block k hk,fun k hk=>⟨(h.2.2 k hk).2,Nat.le_trans hg2.2.1.size (h.2.2 k hk).1,.inl (h.2.2 k hk).1⟩⟩) fun v w' hl=>?_
    have inv':=inv.step hs (fun i vs vs' v w hi hj h=>(E i).dep vs vs' v w (fun j hj'=>hj j (by
     have:=List.all_eq_true.1 (List.all_eq_true.1 hdl i (List.mem_range.2 hi)) j hj'
     simpa using this)) h) (fun i vs v w w' _ hR hb hb' _ _ hx=>(E i).loc vs v w w' hR hb (hx fun _=>rfl)) hin hr hl
    rw[hdo] at inv'
    exact ih _ _ _ _ inv' hcnt
 refine wp_region_any hm ?_
 refine key _ _ _ _ (fun _=>undef) ⟨rfl,rfl,fun i _ h=>?_,fun _ _=>rfl,⟨rfl,rfl,rfl,Nat.le_refl _,fun _ _=>rfl⟩,fun i _ h=>?_,fun i _ h=>?_,by simp,fun j hj hj'=>by simp[hj'],Nat.le_refl _,(fun _ _ h=>by cases h),(fun _ _ _ h=>by cases h),(fun _ _ _ _=>rfl),fun i _ k _ j _ h=>?_,fun k _ h=>?_,fun _ _ _=>rfl,fun i _ h=>?_⟩ ?_
 ·rw[getD_replicate_false] at h;cases h
 ·rw[getD_replicate_false] at h;cases h
 ·rw[getD_replicate_false] at h;cases h
 ·rw[getD_replicate_false] at h;cases h
 ·rw[getD_replicate_false] at h;cases h
 ·rw[getD_replicate_false] at h;cases h
 ·have:((List.range l.length).filter fun i=>!(Array.replicate l.toArray.size false).getD i true)=List.range l.length:=by
   refine List.filter_eq_self.2 fun i hi=>?_
   have:=List.mem_range.1 hi
   simp[this]
  rw[this]
  simp
end
end
section
open Go.RowKit
/-- what can be read off the region's text -/
def sepI (ops:Array Oper) (N:Nat) (ds:Nat→List Nat):Bool :=
 decide (ops.size=N) && Region.noSelect ops &&
 (List.range N).all (fun i=>((ops[i]?).map (fun o=>o.guard.isNone)).getD true && (ds i).all (waits ops i) &&
  (List.range N).all (fun j=>((dstOf ops i).isNone || dstOf ops i != dstOf ops j || i == j) &&
   ((ops[i]?).map fun o=>o.op.operands.all fun x=>match x with | .tmp t=>dstOf ops j != some t || (ds i).contains j | _=>true).getD true) &&
  ((ops[i]?).map fun o=>o.after.all fun e=>!Region.binds .any e || decide (e.on < i)).getD true)
structure SepI (ops:Array Oper) (N:Nat) (ds:Nat→List Nat):Prop where
 size:ops.size=N
 sel:Region.noSelect ops=true
 bare:∀ i,i < N→∀ o,ops[i]?=some o→o.guard=none
 back:∀ i,i < N→∀ o,ops[i]?=some o→∀ e∈o.after,Region.binds .any e=true→e.on < i
 dep:∀ i,i < N→∀ j∈ds i,waits ops i j=true
 opnd:∀ i,i < N→∀ o,ops[i]?=some o→∀ t,.tmp t∈o.op.operands→∀ j,j < N→dstOf ops j=some t→j∈ds i
 dist:∀ i,i < N→∀ j,j < N→∀ d,dstOf ops i=some d→dstOf ops j=some d→i=j
theorem SepI.of {ops:Array Oper} {N:Nat} {ds:Nat→List Nat} (h:sepI ops N ds=true):SepI ops N ds:=by
 unfold sepI at h
 rw[Bool.and_eq_true,Bool.and_eq_true] at h
 obtain⟨⟨h1,h2⟩,h3⟩:=h
 have h1:=of_decide_eq_true h1
 have key:∀ i,i < N→((((ops[i]?).map (fun o=>o.guard.isNone)).getD true=true∧(ds i).all (waits ops i)=true)∧(List.range N).all (fun j=>((dstOf ops i).isNone || dstOf ops i != dstOf ops j || i == j) && ((ops[i]?).map fun o=>o.op.operands.all fun x=>match x with | .tmp t=>dstOf ops j != some t || (ds i).contains j | _=>true).getD true)=true)∧((ops[i]?).map fun o=>o.after.all fun e=>!Region.binds .any e || decide (e.on < i)).getD true=true:=fun i hi=>by
  have:=List.all_eq_true.1 h3 i (List.mem_range.2 hi)
  rw[Bool.and_eq_true,Bool.and_eq_true,Bool.and_eq_true] at this
  exact this
 refine⟨h1,h2,fun i hi o ho=>?_,fun i hi o ho e he hb=>?_,fun i hi j hj=>?_,fun i hi o ho t ht j hj hd=>?_,fun i hi j hj d hdi hdj=>?_⟩
 ·have:=(key i hi).1.1.1
  rw[ho] at this
  simpa using this
 ·have:=(key i hi).2
  rw[ho] at this
  simp only[Option.map_some,Option.getD_some] at this
  have h5:=Array.all_eq_true'.1 this e he
  rw[hb] at h5
  simpa using h5
 ·exact List.all_eq_true.1 (key i hi).1.1.2 j hj
 ·have h4:=List.all_eq_true.1 (key i hi).1.2 j (List.mem_range.2 hj)
  rw[Bool.and_eq_true] at h4
  have h5:=h4.2
  rw[ho] at h5
  simp only[Option.map_some,Option.getD_some] at h5
  have h6:=Array.all_eq_true'.1 h5 _ ht
  simp only[hd] at h6
  simpa using h6
 ·have h4:=List.all_eq_true.1 (key i hi).1.2 j (List.mem_range.2 hj)
  rw[Bool.and_eq_true] at h4
  have h5:=h4.1
  rw[hdi,hdj] at h5
  simpa using h5
structure FInv (ops:Array Oper) (N:Nat) (I:Array Bool→(Nat→Value)→World→Prop) (a0:Act) (vs:Nat→Value) (L:Array Bool) (a:Act) (w:World):Prop where
 defers:a.defers=a0.defers
 size:a.tmps.size=a0.tmps.size
 slot:∀ i,i < N→L.getD i false=true→∀ d,dstOf ops i=some d→d < a0.tmps.size→a.tmps[d]?=some (vs i)
 rest:∀ d,(∀ i,i < N→L.getD i false=true→dstOf ops i≠some d)→a.tmps[d]?=a0.tmps[d]?
 lsize:L.size=N
 inv:I L vs w
section
variable {P:Program} {ops:Array Oper} {N:Nat} {ds:Nat→List Nat} {a0:Act}
theorem frmI_defers (vs:Nat→Value):∀ l,(frm ops a0 vs l).defers=a0.defers
 | []=>rfl
 | i::l=>by unfold frm;rw[put_defers,frmI_defers vs l]
theorem frmI_size (vs:Nat→Value):∀ l,(frm ops a0 vs l).tmps.size=a0.tmps.size
 | []=>rfl
 | i::l=>by unfold frm;rw[put_size,frmI_size vs l]
theorem frmI_slot (hs:SepI ops N ds) (vs:Nat→Value):∀ l,(∀ i∈l,i < N)→∀ i∈l,∀ d,dstOf ops i=some d→d < a0.tmps.size→(frm ops a0 vs l).tmps[d]?=some (vs i)
 | [],_,i,h,_,_,_=>by cases h
 | k::l,hl,i,h,d,hd,hlt=>by
  unfold frm
  by_cases hk:dstOf ops k=some d
  ·have e:k=i:=hs.dist k (hl k (List.mem_cons_self ..)) i (hl i h) d hk hd
   subst e
   rw[hk,put_tmps,if_pos rfl,if_pos (by rw[frmI_size];exact hlt)]
  ·have hne:i≠k:=fun e=>hk (e ▸ hd)
   have hi:i∈l:=(List.mem_cons.1 h).resolve_left hne
   have ih:=frmI_slot hs vs l (fun j hj=>hl j (List.mem_cons_of_mem _ hj)) i hi d hd hlt
   cases hkd:dstOf ops k with
   | none=>exact ih
   | some e =>
    rw[put_tmps,if_neg (fun h=>hk (by rw[hkd,h]))]
    exact ih
theorem frmI_rest (vs:Nat→Value):∀ l d,(∀ i∈l,dstOf ops i≠some d)→(frm ops a0 vs l).tmps[d]?=a0.tmps[d]?
 | [],_,_=>rfl
 | k::l,d,h=>by
  unfold frm
  have ih:=frmI_rest vs l d fun i hi=>h i (List.mem_cons_of_mem _ hi)
  cases hkd:dstOf ops k with
  | none=>exact ih
  | some e =>
   rw[put_tmps,if_neg (fun h2=>h k (List.mem_cons_self ..) (by rw[hkd,h2]))]
   exact ih
end
/-- **A region that draws its order, by an invariant over what is done.** -/
theorem wp_region_inv {P:Program} {id:Nat} {a0:Act} {W:World} {l:List Oper} {Q:Exit→Act→World→Prop} (N:Nat) (ds:Nat→List Nat) (I:Array Bool→(Nat→Value)→World→Prop) (hm:P.follows .mixedOrders=true) (hBB:sepI l.toArray N ds=true)
  (hN:(List.range N).all (fun i=>match dstOf l.toArray i with | some d=>decide (d < a0.tmps.size) | none=>true)=true)
  (h0:∀ vs,I (Array.replicate N false) vs W.drew)
  (hstep:∀ i,i < N→∀ o,l[i]?=some o→∀ (L:Array Bool) vs w,L.size=N→L.getD i true=false→(∀ j,waits l.toArray i j=true→L.getD j false=true)→I L vs w →
   Made P (fun v w'=>I (L.setIfInBounds i true) (fun j=>if j=i then v else vs j) w') ((execOp (frm l.toArray a0 vs (ds i)).eval o).run P w))
  (hend:∀ (L:Array Bool) vs w,L.size=N→(∀ j,j < N→L.getD j false=true)→I L vs w→wpList P l.toArray Q [] (frm l.toArray a0 vs (List.range N)) w) :
  (Code.region id l.toArray true).wp P Q a0 W:=by
 have hs:=SepI.of hBB
 have hN':∀ i,i < N→∀ d,dstOf l.toArray i=some d→d < a0.tmps.size:=fun i hi d hd=>by
  have:=List.all_eq_true.1 hN i (List.mem_range.2 hi)
  rw[hd] at this
  simpa using this
 have key:∀ (f:Nat) (L:Array Bool) (a:Act) (w:World) (vs:Nat→Value),FInv l.toArray N I a0 vs L a w→((List.range N).filter fun i=>!L.getD i true).length=f→wpAny P .any l.toArray Q f L a w:=by
  intro f
  induction f with
  | zero =>
   intro L a w vs inv hf
   have hall:∀ j,j < N→L.getD j false=true:=fun j hj=>by
    cases h1:L.getD j false with
    | true=>rfl
    | false =>
     have h2:L.getD j true=false:=getD_in (by rw[inv.lsize];omega) h1
     have:j∈(List.range N).filter fun i=>!L.getD i true:=List.mem_filter.2 ⟨List.mem_range.2 (by omega),by rw[h2];rfl⟩
     rw[List.length_eq_zero_iff.1 hf] at this
     cases this
   have hae:a=frm l.toArray a0 vs (List.range N):=by
    have h1:a.tmps=(frm l.toArray a0 vs (List.range N)).tmps:=by
     refine Array.ext_getElem? fun d=>?_
     by_cases h:∃ j,j < N∧dstOf l.toArray j=some d
     ·obtain⟨j,hj,hjd⟩:=h
      rw[frmI_slot hs vs (List.range N) (fun k hk=>List.mem_range.1 hk) j (List.mem_range.2 hj) d hjd (hN' j hj d hjd),inv.slot j hj (hall j hj) d hjd (hN' j hj d hjd)]
     ·rw[frmI_rest vs (List.range N) d fun j hj hjd=>h ⟨j,List.mem_range.1 hj,hjd⟩,inv.rest d fun j hj _ hjd=>h ⟨j,hj,hjd⟩]
    have h2:a.defers=(frm l.toArray a0 vs (List.range N)).defers:=by rw[frmI_defers,inv.defers]
    cases a
    cases hq:frm l.toArray a0 vs (List.range N)
    rw[hq] at h1 h2
    simp only at h1 h2
    rw[h1,h2]
   refine⟨List.eq_nil_iff_forall_not_mem.2 fun j hj=>?_,?_⟩
   ·have h0:=(mem_ready.1 hj).1
    have hlt:=ready_lt hj
    rw[getD_both' hlt (hall j (by rw[inv.lsize] at hlt;omega))] at h0
    cases h0
   ·rw[hae]
    exact hend L vs w inv.lsize hall inv.inv
  | succ f ih =>
   intro L a w vs inv hf
   refine⟨fun h0=>?_,fun i hr=>?_⟩
   ·exfalso
    obtain⟨j,hj⟩:∃ j,j∈(List.range N).filter fun i=>!L.getD i true:=by
     cases hl:(List.range N).filter fun i=>!L.getD i true with
     | nil=>rw[hl] at hf;cases hf
     | cons j l=>exact⟨j,List.mem_cons_self ..⟩
    obtain⟨h1,h2⟩:=List.mem_filter.1 hj
    have hex:∀ m,∀ j,j < m→j < N→L.getD j true=false→∃ i,i∈Region.ready .any l.toArray L:=by
     intro m
     induction m with
     | zero=>intro j hj;omega
     | succ m ih2 =>
      intro j hj hjN hu
      by_cases hrd:j∈Region.ready .any l.toArray L
      ·exact⟨j,hrd⟩
      ·have hoj:∃ o,l.toArray[j]?=some o:=⟨l.toArray[j]'(by rw[hs.size];exact hjN),Array.getElem?_eq_getElem _⟩
       obtain⟨o,ho⟩:=hoj
       have:¬ ∀ e∈o.after,Region.binds .any e=true→L.getD e.on false=true:=fun hall=>hrd (mem_ready.2 ⟨hu,o,ho,hall⟩)
       obtain⟨e,hne⟩:=Classical.not_forall.1 this
       obtain⟨he,hne⟩:=Classical.not_forall.1 hne
       obtain⟨hb,hne⟩:=Classical.not_forall.1 hne
       have hlt:=hs.back j hjN o ho e he hb
       exact ih2 e.on (by omega) (by omega) (getD_in (by rw[inv.lsize];omega) (by simpa using hne))
    obtain⟨i,hi⟩:=hex (j+1) j (by omega) (List.mem_range.1 h1) (by simpa using h2)
    rw[h0] at hi
    cases hi
   ·have hcnt:=count_step inv.lsize hr hf
    have hlt:=ready_lt hr
    rw[inv.lsize] at hlt
    obtain⟨hun,o,ho,hall⟩:=mem_ready.1 hr
    have hol:l[i]?=some o:=by simpa using ho
    have hg:o.guard=none:=hs.bare i hlt o ho
    unfold wpOp
    rw[ho]
    simp only[]
    rw[if_pos (by simp[Region.wanted,hg])]
    refine .inl ?_
    have hdo:dstOf l.toArray i=o.dst:=by unfold dstOf;rw[ho];rfl
    have hsel:=Region.noSelect_spec hs.sel
    have hwt:∀ j,waits l.toArray i j=true→L.getD j false=true:=fun j hj=>waits_listed hr hj
    have hdlt:∀ j∈ds i,j < N:=fun j hj=>by
     have hw:=hs.dep i hlt j hj
     unfold waits at hw
     rw[ho] at hw
     obtain⟨e,he,hb⟩:=Array.any_eq_true'.1 hw
     simp only[Bool.and_eq_true,beq_iff_eq] at hb
     have:=hs.back i hlt o ho e he hb.1
     omega
    have hdl:∀ j∈ds i,L.getD j false=true:=fun j hj=>hwt j (hs.dep i hlt j hj)
    have hex:execOp a.eval o=execOp (frm l.toArray a0 vs (ds i)).eval o:=execOp_congr o (fun cs b=>hsel i o cs b ho) (put_operand fun d hd=>by
     by_cases h:∃ j,j < N∧dstOf l.toArray j=some d
     ·obtain⟨j,hj,hjd⟩:=h
      have hm:=hs.opnd i hlt o ho d hd j hj hjd
      rw[frmI_slot hs vs (ds i) hdlt j hm d hjd (hN' j hj d hjd),inv.slot j hj (hdl j hm) d hjd (hN' j hj d hjd)]
     ·rw[frmI_rest vs (ds i) d fun j hj hjd=>h ⟨j,hdlt j hj,hjd⟩,inv.rest d fun j hj _ hjd=>h ⟨j,hj,hjd⟩])
    refine wp_of_made (T:=fun v w'=>I (L.setIfInBounds i true) (fun j=>if j=i then v else vs j) w') (by
     rw[hex]
     exact hstep i hlt o hol L vs w inv.lsize hun hwt inv.inv) fun v w' hl=>?_
    have hget:∀ j,(L.setIfInBounds i true).getD j false=true→j=i ∨ L.getD j false=true:=fun j hj=>by
     by_cases h:i=j
     ·exact .inl h.symm
     ·rw[getD_set_ne false h] at hj;exact .inr hj
    refine ih _ _ _ (fun j=>if j=i then v else vs j) ⟨by rw[put_defers,inv.defers],by rw[put_size,inv.size],fun j hj hjl d hd hdl2=>?_,fun d hd=>?_,by simp[inv.lsize],hl⟩ hcnt
    ·by_cases hji:j=i
     ·subst hji
      rw[← hdo,hd,put_tmps,if_pos rfl,if_pos (by rw[inv.size];exact hdl2),if_pos rfl]
     ·have hjl':=(hget j hjl).resolve_left hji
      have h1:=inv.slot j hj hjl' d hd hdl2
      rw[if_neg hji]
      cases hod:o.dst with
      | none=>exact h1
      | some e =>
       rw[put_tmps,if_neg (fun h2=>hji (hs.dist j hj i hlt d hd (by rw[hdo,hod,h2])))]
       exact h1
    ·have h1:=inv.rest d fun j hj hjl=>hd j hj (by
      by_cases h:i=j
      ·subst h;simp[inv.lsize,hlt]
      ·rw[getD_set_ne false h];exact hjl)
     cases hod:o.dst with
     | none=>exact h1
     | some e =>
      rw[put_tmps,if_neg (fun h2=>hd i hlt (by simp[inv.lsize,hlt]) (by rw[hdo,hod,h2]))]
      exact h1
 refine wp_region_any hm ?_
 refine key _ _ _ _ (fun _=>undef) ⟨rfl,rfl,fun i _ h=>?_,fun _ _=>rfl,by simp[hs.size],?_⟩ ?_
 ·rw[getD_replicate_false] at h;cases h
 ·have:=h0 (fun _=>undef)
  rw[← hs.size] at this
  exact this
 ·have hz:=hs.size
  have:((List.range N).filter fun i=>!(Array.replicate l.toArray.size false).getD i true)=List.range N:=by
   refine List.filter_eq_self.2 fun i hi=>?_
   have:=List.mem_range.1 hi
   have h5:i < l.length:=by rw[← hz] at this;simpa using this
   simp[h5]
  rw[this]
  simp[← hz]
end
section
open Go.RowKit
/-- the values of what is done, where they are known ahead -/
def Vals (VL:List (Option Value)) (L:Array Bool) (vs:Nat→Value):Prop:=∀ i v,VL[i]?=some (some v)→L.getD i false=true→vs i=v
theorem Vals.put {VL:List (Option Value)} {L:Array Bool} {vs:Nat→Value} {i:Nat} {v:Value} (h:Vals VL L vs) (hv:∀ x,VL[i]?=some (some x)→v=x):Vals VL (L.setIfInBounds i true) (fun j=>if j=i then v else vs j):=fun k x hk hl=>by
 by_cases hki:k=i
 ·subst hki
  show(if k=k then v else vs k)=x
  rw[if_pos rfl]
  exact hv x hk
 ·show(if k=i then v else vs k)=x
  rw[if_neg hki]
  rw[getD_set_ne false (fun e=>hki e.symm)] at hl
  exact h k x hk hl
/-- one of two, by whether an operation is done -/
def stg {α:Type} (L:Array Bool) (i:Nat) (x y:α):α:=if L.getD i false=true then y else x
theorem stg_set {α:Type} {L:Array Bool} {i k:Nat} (x y:α) (h:i≠k):stg (L.setIfInBounds i true) k x y=stg L k x y:=by
 unfold stg
 rw[getD_set_ne false h]
theorem stg_new {α:Type} {L:Array Bool} {i:Nat} (x y:α) (h:i < L.size):stg (L.setIfInBounds i true) i x y=y:=by
 unfold stg
 rw[if_pos (by simp[h])]
theorem stg_done {α:Type} {L:Array Bool} {i:Nat} (x y:α) (h:L.getD i false=true):stg L i x y=y:=by unfold stg;rw[if_pos h]
theorem made_skip {P:Program} {T:Value→World→Prop} {w':World} (h:T undef w'):Made P T (.ok .skip w'):=h
section
variable {L:Array Bool} {vs:Nat→Value} {w w':World} {i k nx j p:Nat} {v:Value} {T:Value→World→Prop}
end
end
section
open Go.RowKit
theorem done_set {L:Array Bool} {i j:Nat} (h:L.getD j false=true):(L.setIfInBounds i true).getD j false=true:=by
 by_cases hij:i=j
 ·subst hij
  have hlt:i < L.size:=Nat.lt_of_not_le fun hn=>by
   rw[Array.getD_eq_getD_getElem?,Array.getElem?_eq_none hn] at h
   cases h
  simp[hlt]
 ·rw[getD_set_ne false hij];exact h
theorem und {L:Array Bool} {i:Nat} (h:L.getD i true=false):L.getD i false=false:=by
 cases h3:L[i]? <;> simp_all [Array.getD_eq_getD_getElem?]
/-- what is done is closed under what an operation waits for -/
def Clo (ops:Array Oper) (L:Array Bool):Prop:=∀ k j,L.getD k false=true→waits ops k j=true→L.getD j false=true
theorem Clo.nd {ops:Array Oper} {L:Array Bool} (h:Clo ops L) {i k:Nat} (hi:L.getD i false=false) (hw:waits ops k i=true):L.getD k false=false:=by
 cases hk:L.getD k false with
 | false=>rfl
 | true=>rw[h k i hk hw] at hi;cases hi
theorem wp_region_invC {P:Program} {id:Nat} {a0:Act} {W:World} {l:List Oper} {Q:Exit→Act→World→Prop} (N:Nat) (ds:Nat→List Nat) (I:Array Bool→(Nat→Value)→World→Prop) (hm:P.follows .mixedOrders=true) (hBB:sepI l.toArray N ds=true)
  (hN:(List.range N).all (fun i=>match dstOf l.toArray i with | some d=>decide (d < a0.tmps.size) | none=>true)=true)
  (h0:∀ vs,I (Array.replicate N false) vs W.drew)
  (hstep:∀ i,i < N→∀ o,l[i]?=some o→∀ (L:Array Bool) vs w,L.size=N→L.getD i false=false→(∀ j,waits l.toArray i j=true→L.getD j false=true)→Clo l.toArray L→I L vs w →
   Made P (fun v w'=>I (L.setIfInBounds i true) (fun j=>if j=i then v else vs j) w') ((execOp (frm l.toArray a0 vs (ds i)).eval o).run P w))
  (hend:∀ (L:Array Bool) vs w,L.size=N→(∀ j,j < N→L.getD j false=true)→I L vs w→wpList P l.toArray Q [] (frm l.toArray a0 vs (List.range N)) w) :
  (Code.region id l.toArray true).wp P Q a0 W:=by
 refine wp_region_inv N ds (fun L vs w=>I L vs w∧Clo l.toArray L) hm hBB hN (fun vs=>⟨h0 vs,fun k j h=>by rw[getD_replicate_false] at h;cases h⟩) ?_ ?_
 ·intro i hi o ho L vs w hls hun hwt hI
  refine(hstep i hi o ho L vs w hls (und hun) hwt hI.2 hI.1).mono fun v w' h=>⟨h,fun k j hk hj=>?_⟩
  by_cases hki:i=k
  ·subst hki
   exact done_set (hwt j hj)
  ·rw[getD_set_ne false hki] at hk
   exact done_set (hI.2 k j hk hj)
 ·intro L vs w hls hall hI
  exact hend L vs w hls hall hI.1
/-- the facts of the operations' values; nx: the operation that takes a value over -/
structure RgI (W:World) (B N:Nat) (T:Nat→Value→World→Prop) (nx:Nat→Nat) (L:Array Bool) (vs:Nat→Value) (w:World):Prop where
 b:Below B W w
 f:∀ k,k < N→L.getD k false=true→(nx k≠k→L.getD (nx k) false=false)→T k (vs k) w
section
variable {W w w':World} {B N i:Nat} {T:Nat→Value→World→Prop} {nx:Nat→Nat} {L:Array Bool} {vs:Nat→Value} {v:Value}
end
end
section
open Go.RowKit
theorem phase2_all {P:Program} {a0:Act} {W:World} {l:List Oper} {Q:Exit→Act→World→Prop} (m n:Nat) (ds:Nat→List Nat) (E:Nat→Ent W) (hBB:sepG true l.toArray l.length n ds (fun _=>[]) (fun _=>true) 2=true) (hn:l.length=n) (hmn:m≤n) (hb:bareB l n=true)
  (hdl:(List.range n).all (fun i=>(E i).dl.all ((ds i).contains ·))=true)
  (hN:(List.range n).all (fun i=>match dstOf l.toArray i with | some d=>decide (d < a0.tmps.size) | none=>true)=true)
  (h0:∀ i,i < m→(E i).R (fun j=>match dstOf l.toArray j with | some d=>a0.tmps.getD d undef | none=>undef) (match dstOf l.toArray i with | some d=>a0.tmps.getD d undef | none=>undef) W∧∀ v,(E i).ob v=none)
  (hstep:∀ i,m≤i→i < n→∀ o,l[i]?=some o→∀ vs w,Below W.heap.size W w→(∀ j∈ds i,(E j).R vs (vs j) w)→Made P (Adds (E i) vs w) ((execOp (frm l.toArray a0 vs (ds i)).eval o).run P w))
  (hend:∀ vs w,Below W.heap.size W w→(∀ i,i < n→(E i).R vs (vs i) w∧∀ k,(E i).ob (vs i)=some k→W.heap.size≤k∧k < w.heap.size)→(∀ i,i < n→∀ i',i' < n→i≠i'→∀ k,(E i).ob (vs i)=some k→(E i').ob (vs i')≠some k)→wpList P l.toArray Q [] (frm l.toArray a0 vs (List.range n)) w) :
  Phase2 P l.toArray Q m a0 W:=by
 have hs:=SepB.ofG hBB
 have hN':∀ i,i < n→∀ d,dstOf l.toArray i=some d→d < a0.tmps.size:=fun i hi d hd=>by
  have:=List.all_eq_true.1 hN i (List.mem_range.2 hi)
  rw[hd] at this
  simpa using this
 have key:∀ (f:Nat) (L:Array Bool) (a:Act) (w:World) (vs:Nat→Value),SInv l.toArray l.length n (fun _=>[]) (fun i=>(E i).R) (fun i=>(E i).ob) W W.heap.size (fun _=>none) a0 vs L a w→(∀ j,j < m→L.getD j false=true)→((List.range l.length).filter fun i=>!L.getD i true).length=f→wpAny P .any l.toArray Q f L a w:=by
  intro f
  induction f with
  | zero =>
   intro L a w vs inv hm hf
   have hall:∀ j,j < n→L.getD j false=true:=fun j hj=>by
    cases h1:L.getD j false with
    | true=>rfl
    | false =>
     have h2:L.getD j true=false:=getD_in (by rw[inv.lsize];omega) h1
     have:j∈(List.range l.length).filter fun i=>!L.getD i true:=List.mem_filter.2 ⟨List.mem_range.2 (by omega),by rw[h2];rfl⟩
     rw[List.length_eq_zero_iff.1 hf] at this
     cases this
   have hae:a=frm l.toArray a0 vs (List.range n):=by
    have h1:a.tmps=(frm l.toArray a0 vs (List.range n)).tmps:=by
     refine Array.ext_getElem? fun d=>?_
     by_cases h:∃ j,j < n∧dstOf l.toArray j=some d
     ·obtain⟨j,hj,hjd⟩:=h
      rw[frm_slot hs vs (List.range n) (fun k hk=>List.mem_range.1 hk) j (List.mem_range.2 hj) d hjd (hN' j hj d hjd),inv.slot j hj (hall j hj) d hjd (hN' j hj d hjd)]
     ·rw[frm_rest vs (List.range n) d fun j hj hjd=>h ⟨j,List.mem_range.1 hj,hjd⟩,inv.rest d fun j hj _ hjd=>h ⟨j,hj,hjd⟩]
    have h2:a.defers=(frm l.toArray a0 vs (List.range n)).defers:=by rw[frm_defers,inv.defers]
    cases a
    cases hq:frm l.toArray a0 vs (List.range n)
    rw[hq] at h1 h2
    simp only at h1 h2
    rw[h1,h2]
   refine⟨List.eq_nil_iff_forall_not_mem.2 fun j hj=>?_,?_⟩
   ·have h0:=(mem_ready.1 hj).1
    have hlt:=ready_lt hj
    rw[getD_both' hlt (hall j (by rw[inv.lsize] at hlt;omega))] at h0
    cases h0
   ·rw[hae]
    exact hend vs w inv.below (fun j hj=>inv.holds j hj (hall j hj) fun m _ _ h=>by cases h) fun j hj j' hj' hne=>inv.apart j hj (hall j hj) (fun m _ _ h=>by cases h) j' hj' (hall j' hj') (fun m _ _ h=>by cases h) hne
  | succ f ih =>
   intro L a w vs inv hm hf
   refine⟨fun h0=>?_,fun i hr=>?_⟩
   ·exfalso
    obtain⟨j,hj⟩:∃ j,j∈(List.range l.length).filter fun i=>!L.getD i true:=by
     cases hl:(List.range l.length).filter fun i=>!L.getD i true with
     | nil=>rw[hl] at hf;cases hf
     | cons j l=>exact⟨j,List.mem_cons_self ..⟩
    obtain⟨h1,h2⟩:=List.mem_filter.1 hj
    obtain⟨i,_,h4,_⟩:=least_ready hs inv.lsize (List.mem_range.1 h1) (getD_both (by simpa using h2))
    rw[h0] at h4
    cases h4
   ·have hcnt:=count_step inv.lsize hr hf
    have hlt:=ready_lt hr
    rw[inv.lsize] at hlt
    have hin:i < n:=by omega
    obtain⟨hun,o,ho,hall⟩:=mem_ready.1 hr
    have hmi:m≤i:=by
     rcases Nat.lt_or_ge i m with h | h
     ·have:=hm i h
      rw[getD_both hun] at this
      cases this
     ·exact h
    have hol:l[i]?=some o:=by simpa using ho
    have hg:o.guard=none:=by
     have:=List.all_eq_true.1 hb i (List.mem_range.2 hin)
     rw[hol] at this
     simpa using this
    unfold wpOp
    rw[ho]
    simp only[]
    rw[if_pos (by simp[Region.wanted,hg])]
    refine .inl ?_
    have hdo:dstOf l.toArray i=o.dst:=by unfold dstOf;rw[ho];rfl
    have hsel:=Region.noSelect_spec hs.sel
    have hex:execOp a.eval o=execOp (frm l.toArray a0 vs (ds i)).eval o:=execOp_congr o (fun cs b=>hsel i o cs b ho) (put_operand fun d hd=>by
     have hdl:∀ j∈ds i,L.getD j false=true:=fun j hj=>waits_listed hr (hs.dep i hin j hj)
     have hdlt:∀ j∈ds i,j < n:=fun j hj=>by
      have hw:=hs.dep i hin j hj
      unfold waits at hw
      rw[ho] at hw
      obtain⟨e,he,hb⟩:=Array.any_eq_true'.1 hw
      simp only[Bool.and_eq_true,beq_iff_eq] at hb
      have:=hs.back i (by have:=hs.le;omega) o ho e he hb.1
      omega
     by_cases h:∃ j,j < n∧dstOf l.toArray j=some d
     ·obtain⟨j,hj,hjd⟩:=h
      have hm:=hs.opnd i hin o ho d hd j hj hjd
      rw[frm_slot hs vs (ds i) hdlt j hm d hjd (hN' j hj d hjd),inv.slot j hj (hdl j hm) d hjd (hN' j hj d hjd)]
     ·rw[frm_rest vs (ds i) d fun j hj hjd=>h ⟨j,hdlt j hj,hjd⟩,inv.rest d fun j hj _ hjd=>h ⟨j,hj,hjd⟩])
    have hg2:=inv.given hs hin hr
    refine wp_of_made (T:=LaysB (fun j=>(E j).R vs) (fun j=>(E j).ob) W.heap.size (fun _=>none) vs [] i w) (by
     rw[hex]
     exact(hstep i hmi hin o hol vs w hg2.2.1 fun j hj=>(hg2.2.2.1 j hj).1).mono fun v w' h=>⟨h.1,h.2.1.os,h.2.1.tape,h.2.1.output,h.2.1.size,fun k hk _=>h.2.1.block k hk,fun k hk=>⟨(h.2.2 k hk).2,Nat.le_trans hg2.2.1.size (h.2.2 k hk).1,.inl (h.2.2 k hk).1⟩⟩) fun v w' hl=>?_
    have inv':=inv.step hs (fun i vs vs' v w hi hj h=>(E i).dep vs vs' v w (fun j hj'=>hj j (by
     have:=List.all_eq_true.1 (List.all_eq_true.1 hdl i (List.mem_range.2 hi)) j hj'
     simpa using this)) h) (fun i vs v w w' _ hR hb hb' _ _ hx=>(E i).loc vs v w w' hR hb (hx fun _=>rfl)) hin hr hl
    rw[hdo] at inv'
    exact ih _ _ _ _ inv' (fun j hj=>getD_set_true (hm j hj)) hcnt
 intro L hL hl1 hl2 f hf
 have hls:∀ j,j < n→L.getD j false=true→j < m:=fun j hj h=>by
  rcases Nat.lt_or_ge j m with h1 | h1
  ·exact h1
  ·have:=getD_both (hl2 j h1 (by rw[hs.size];have:=hs.le;omega))
   rw[h] at this
   cases this
 refine key f L a0 W (fun j=>match dstOf l.toArray j with | some d=>a0.tmps.getD d undef | none=>undef)
  ⟨rfl,rfl,fun i hi h d hd hd'=>?_,fun _ _=>rfl,⟨rfl,rfl,rfl,Nat.le_refl _,fun _ _=>rfl⟩,(fun i hi h _=>⟨(h0 i (hls i hi h)).1,fun k hk=>by rw[(h0 i (hls i hi h)).2] at hk;cases hk⟩),(fun i hi h _ i' hi' h' _ _ k hk=>by rw[(h0 i (hls i hi h)).2] at hk;cases hk),(by rw[hL,hs.size]),fun j hj hj'=>hl2 j (by omega) (by rw[hs.size];exact hj'),Nat.le_refl _,(fun _ _ h=>by cases h),(fun _ _ _ h=>by cases h),(fun _ _ _ _=>rfl),(fun i _ k hk=>by cases hk),fun k hk hkl i hw=>?_,(fun _ _ _=>rfl),(fun i hi h _ k hk=>by rw[(h0 i (hls i hi h)).2] at hk;cases hk)⟩ hl1 (by simpa using hf)
 ·have:(a0.tmps)[d]?=some (a0.tmps.getD d undef):=by simp[hd']
  rw[this]
  simp only[hd]
 ·have hkm:=hls k hk hkl
  have hwk:=hw
  unfold waits at hwk
  cases hok:l.toArray[k]? with
  | none=>rw[hok] at hwk;cases hwk
  | some o =>
   rw[hok] at hwk
   obtain⟨e,he,hb⟩:=Array.any_eq_true'.1 hwk
   simp only[Bool.and_eq_true,beq_iff_eq] at hb
   have:=hs.back k (by have:=hs.le;omega) o hok e he hb.1
   exact hl1 i (by omega)
end
end Go.Proofs.YtaijmgkjbbiboaaGreat
