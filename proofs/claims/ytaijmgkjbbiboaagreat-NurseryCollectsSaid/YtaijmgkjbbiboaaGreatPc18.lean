/- Parts of the proof: SepF. -/
import Derived.Test.YtaijmgkjbbiboaaGreatPcA
import Derived.Test.YtaijmgkjbbiboaaGreatPc2
set_option linter.unusedVariables false
set_option linter.unusedSimpArgs false
set_option linter.unusedSectionVars false
set_option maxRecDepth 100000
namespace Go.Proofs.YtaijmgkjbbiboaaGreat
section
open Go.RowKit
section
variable {P:Program} {W w w1:World} {vs:Nat→Value}
def Ent.of (T:Value→World→Prop) (hT:∀ v w w',T v w→Below w.heap.size w w'→T v w') (ob:Value→Option Nat:=fun _=>none):Ent W:=⟨[],fun _ v w=>T v w,ob,fun _ v w w' h _ hb=>hT v w w' h hb,fun _ _ _ _ _ h=>h⟩
def Ent.ex (T:Value→Prop):Ent W:=⟨[],fun _ v _=>T v,fun _=>none,fun _ _ _ _ h _ _=>h,fun _ _ _ _ _ h=>h⟩
def Ent.val (x:Value):Ent W:=Ent.ex fun v=>v=x
def Ent.blk (t:TypeId) (cs:Array Value):Ent W:=Ent.of (fun v w=>∃ g,v=.pointer (some ⟨g,0,none⟩)∧Bk w g t cs) (fun v w w' ⟨g,e,h⟩ hb=>⟨g,e,h.below hb h.lt⟩) blkOf
def EL (l:List (Ent W)) (i:Nat):Ent W:=l.getD i (Ent.val undef)
/-- what the operation leaves -/
def Adds (E:Ent W) (vs:Nat→Value) (w:World) (v:Value) (w':World):Prop:=E.R vs v w'∧Below w.heap.size w w'∧∀ k,E.ob v=some k→w.heap.size≤k∧k < w'.heap.size
theorem adds_val {X x:Value} (h:x=X):Made P (Adds (Ent.val (W:=W) X) vs w) (.ok (.value x) w):=⟨h,Below.refl _ _,(fun k hk=>nomatch hk)⟩
theorem adds_blk {t:TypeId} {cs:Array Value}:Made P (Adds (Ent.blk (W:=W) t cs) vs w) (.ok (.value (.pointer (some ⟨w.heap.size,0,none⟩))) (w.alloc (.cells cs t))) :=
 ⟨⟨_,rfl,Bk.new _ _ _⟩,(Below.refl _ _).alloc (Nat.le_refl _) _,(fun k hk=>by cases hk;exact⟨Nat.le_refl _,by simp⟩)⟩
theorem adds_quiet {f:FuncId} {args:Array Value} {X:Value} (h:Calls P f args w fun e w'=>e=.returned X∧∃ n,w'=w.drewN n):Made P (Adds (Ent.val (W:=W) X) vs w) (.ok (.enter f args) w) :=
 h.mono fun e w' ⟨he,n,hw⟩=>⟨_,he,rfl,by subst hw;exact below_drewN (Below.refl _ _) n,(fun k hk=>nomatch hk)⟩
theorem adds_still {f:FuncId} {args:Array Value} {X:Value} (h:Calls P f args w fun e w'=>e=.returned X∧w=w'):Made P (Adds (Ent.val (W:=W) X) vs w) (.ok (.enter f args) w) :=
 h.mono fun e w' ⟨he,hw⟩=>⟨_,he,rfl,by subst hw;exact Below.refl _ _,(fun k hk=>nomatch hk)⟩
theorem adds_below {f:FuncId} {args:Array Value} {X:Value} (h:Calls P f args w fun e w'=>e=.returned X∧Below w.heap.size w w'):Made P (Adds (Ent.val (W:=W) X) vs w) (.ok (.enter f args) w) :=
 h.mono fun e w' ⟨he,hb⟩=>⟨_,he,rfl,hb,(fun k hk=>nomatch hk)⟩
theorem adds_call {f:FuncId} {args:Array Value} {T:Value→World→Prop} {hT:∀ v w w',T v w→Below w.heap.size w w'→T v w'} {ob:Value→Option Nat} {Q:Ending→World→Prop} (h:Calls P f args w Q) (hQ:∀ e w',Q e w'→∃ v,e=.returned v∧T v w'∧Below w.heap.size w w'∧∀ k,ob v=some k→w.heap.size≤k∧k < w'.heap.size):Made P (Adds (Ent.of (W:=W) T hT ob) vs w) (.ok (.enter f args) w) :=
 h.mono fun e w' hq=>let ⟨v,he,h1,h2,h3⟩:=hQ e w' hq;⟨v,he,h1,h2,h3⟩
/-- .. without guarded operations -/
theorem wp_region_adds0 {id:Nat} {a0:Act} {W:World} {l:List Oper} {Q:Exit→Act→World→Prop} (n:Nat) (ds:Nat→List Nat) (E:Nat→Ent W) (hm:P.follows .mixedOrders=true) (hBB:sepG true l.toArray l.length n ds (fun _=>[])=true) (hb:sepB l.toArray l.length n ds (fun _=>[])=true)
  (hdl:(List.range n).all (fun i=>(E i).dl.all ((ds i).contains ·))=true)
  (hN:(List.range n).all (fun i=>match dstOf l.toArray i with | some d=>decide (d < a0.tmps.size) | none=>true)=true)
  (hstep:∀ i,i < n→∀ o,l[i]?=some o→∀ vs w,Below W.heap.size W w→(∀ j∈ds i,(E j).R vs (vs j) w)→Made P (Adds (E i) vs w) ((execOp (frm l.toArray a0 vs (ds i)).eval o).run P w))
  (hend:∀ vs w,Below W.heap.size W w→(∀ i,i < n→(E i).R vs (vs i) w∧∀ k,(E i).ob (vs i)=some k→W.heap.size≤k∧k < w.heap.size)→(∀ i,i < n→∀ i',i' < n→i≠i'→∀ k,(E i).ob (vs i)=some k→(E i').ob (vs i')≠some k)→wpList P l.toArray Q (l.drop n) (frm l.toArray a0 vs (List.range n)) w) :
  (Code.region id l.toArray true).wp P Q a0 W :=
 wp_region_adds n ds E hm hBB (fun i hi o ho g b hgb=>by rw[sepB_bare hb i hi o (by simpa using ho)] at hgb;cases hgb) hdl hN hstep hend
end
end
section
open Go.RowKit
def pureOp:Op→Bool
 | .move _=>true
 | .assign _=>true
 | .extract _ _=>true
 | _=>false
theorem pure_run {P:Program} {o:Oper} (h:pureOp o.op=true) {ρ:Operand→Value} {w w1:World} {nx:Next} (hr:(execOp ρ o).run P w=.ok nx w1):w1=w∧∃ v,nx=.value v∧∀ w',(execOp ρ o).run P w'=.ok (.value v) w':=by
 obtain⟨dst,op,type,pos,after,guard⟩:=o
 cases op <;> simp only[pureOp,Bool.false_eq_true] at h
 case move x =>
  have e:∀ w',(execOp ρ ⟨dst,.move x,type,pos,after,guard⟩).run P w'=.ok (.value (ρ x)) w':=fun w'=>rfl
  rw[e] at hr
  cases hr
  exact⟨rfl,_,rfl,e⟩
 case assign x =>
  have e:∀ w',(execOp ρ ⟨dst,.assign x,type,pos,after,guard⟩).run P w'=.ok (.value (ρ x)) w':=fun w'=>rfl
  rw[e] at hr
  cases hr
  exact⟨rfl,_,rfl,e⟩
 case extract x i =>
  have e:∀ w',(execOp ρ ⟨dst,.extract x i,type,pos,after,guard⟩).run P w'=((Instr.extract (ρ x) i).run P w').andThen fun v w''=>.ok (.value v) w'':=fun w'=>by
   simp only[execOp,Sem.run_bind,Sem.run_pure]
  rw[e] at hr
  unfold Instr.extract at hr
  split at hr
  ·rename_i vs hv
   split at hr
   ·rename_i v hi
    simp only[Sem.run_pure,Result.andThen_ok] at hr
    cases hr
    refine⟨rfl,v,rfl,fun w'=>?_⟩
    rw[e]
    unfold Instr.extract
    simp only[hv,hi,Sem.run_pure,Result.andThen_ok]
   ·cases hr
  ·cases hr
structure SepF (ops:Array Oper) (n:Nat) (fl:Nat→Bool):Prop where
 pure:∀ i,i < n→fl i=true→∀ o,ops[i]?=some o→pureOp o.op=true∧o.guard=none
 bare:∀ k,n≤k→∀ o,ops[k]?=some o→o.guard=none
 topnd:∀ k,n≤k→∀ o,ops[k]?=some o→∀ t,.tmp t∈o.op.operands→∀ j,j < n→fl j=true→dstOf ops j=some t→waits ops k j=true
 tdst:∀ k,n≤k→∀ d,dstOf ops k=some d→∀ j,j < n→dstOf ops j≠some d∧(fl j=true→∀ o,ops[j]?=some o→.tmp d ∉ o.op.operands)
def sepF (ops:Array Oper) (n:Nat) (fl:Nat→Bool):Bool :=
 (List.range n).all (fun i=>!fl i || ((ops[i]?).map fun o=>pureOp o.op && o.guard.isNone).getD true) &&
 (List.range ops.size).all (fun k=>decide (k < n) || ((ops[k]?).map fun o=>o.guard.isNone && (List.range n).all fun j =>
  (!fl j || o.op.operands.all fun x=>match x with | .tmp t=>dstOf ops j != some t || waits ops k j | _=>true) &&
  (match o.dst with
   | some d=>dstOf ops j != some d && (!fl j || ((ops[j]?).map fun oj=>oj.op.operands.all fun x=>match x with | .tmp t=>t != d | _=>true).getD true)
   | none=>true)).getD true)
theorem SepF.of {ops:Array Oper} {n:Nat} {fl:Nat→Bool} (h:sepF ops n fl=true):SepF ops n fl:=by
 unfold sepF at h
 simp only[Bool.and_eq_true,List.all_eq_true,List.mem_range,Bool.or_eq_true,decide_eq_true_eq] at h
 obtain⟨h1,h2⟩:=h
 have key:∀ k,n≤k→∀ o,ops[k]?=some o→(o.guard.isNone=true∧∀ j,j < n→((!fl j)=true ∨ (o.op.operands.all fun x=>match x with | .tmp t=>dstOf ops j != some t || waits ops k j | _=>true)=true)∧(match o.dst with
   | some d=>dstOf ops j != some d && (!fl j || ((ops[j]?).map fun oj=>oj.op.operands.all fun x=>match x with | .tmp t=>t != d | _=>true).getD true)
   | none=>true)=true):=fun k hk o ho=>by
  have hlt:k < ops.size:=(Array.getElem?_eq_some_iff.1 ho).1
  rcases h2 k hlt with h | h
  ·omega
  ·rw[ho] at h
   simp only[Option.map_some,Option.getD_some,Bool.and_eq_true,List.all_eq_true,List.mem_range,Bool.or_eq_true] at h
   exact⟨h.1,fun j hj=>h.2 j hj⟩
 refine⟨fun i hi hf o ho=>?_,fun k hk o ho=>?_,fun k hk o ho t ht j hj hf hd=>?_,fun k hk d hd j hj=>?_⟩
 ·rcases h1 i hi with h | h
  ·rw[hf] at h;cases h
  ·rw[ho] at h
   simp only[Option.map_some,Option.getD_some,Bool.and_eq_true] at h
   exact⟨h.1,by simpa using h.2⟩
 ·simpa using (key k hk o ho).1
 ·rcases ((key k hk o ho).2 j hj).1 with h | h
  ·rw[hf] at h;cases h
  ·have:=(Array.all_eq_true_iff_forall_mem.1 h) _ ht
   simpa [hd] using this
 ·obtain⟨o,ho⟩:∃ o,ops[k]?=some o:=by
   unfold dstOf at hd
   cases h:ops[k]? with
   | none=>rw[h] at hd;cases hd
   | some o=>exact⟨o,rfl⟩
  have h3:=((key k hk o ho).2 j hj).2
  have hod:o.dst=some d:=by unfold dstOf at hd;rw[ho] at hd;exact hd
  rw[hod] at h3
  simp only[Bool.and_eq_true,bne_iff_ne,ne_eq,Bool.or_eq_true] at h3
  refine⟨h3.1,fun hf oj hoj hm=>?_⟩
  rcases h3.2 with h4 | h4
  ·rw[hf] at h4;cases h4
  ·rw[hoj] at h4
   simp only[Option.map_some,Option.getD_some] at h4
   have:=(Array.all_eq_true_iff_forall_mem.1 h4) _ hm
   simp at this
/-- nothing but the normal end -/
def onlyN (K:Act→World→Prop):Exit→Act→World→Prop
 | .normal,a,w=>K a w
 | _,_,_=>False
theorem onlyN_lets {K:Act→World→Prop}:¬ LetsOut (onlyN K):=fun⟨_,_,h⟩=>h
section
variable {P:Program} {ops:Array Oper} {N n:Nat} {ds eats:Nat→List Nat} {fl:Nat→Bool} {W:World} {B:Nat} {ini:Nat→Option Nat} {a0:Act} {Q:Exit→Act→World→Prop} {ob:Nat→Value→Option Nat} {R:Nat→(Nat→Value)→Value→World→Prop}
theorem wp_frames {o:Oper} {a b:Act} {w:World} {K Ka:Act→World→Prop} {R':Act→World→Prop} (h:o.wp P b w K (onlyN R')) (hab:execOp a.eval o=execOp b.eval o) (hK:∀ v w',K (b.put o.dst v) w'→Ka (a.put o.dst v) w') (hD:∀ d w',K ({ b with defers:=d::b.defers }.put o.dst undef) w'→Ka ({ a with defers:=d::a.defers }.put o.dst undef) w'):o.wp P a w Ka Q:=by
 unfold Oper.wp at h ⊢
 rw[hab]
 generalize (execOp b.eval o).run P w=r at h
 cases r with
 | ok nx w' =>
  cases nx <;> simp only[Oper.upon] at h ⊢
  case value v=>exact hK _ _ h
  case skip=>exact hK _ _ h
  case defer d=>exact hD _ _ h
  case row row args=>exact Rows.mono h fun v w'' hv=>hK _ _ hv
  case enter f args =>
   refine Calls.mono h fun e w'' he=>?_
   cases e with
   | returned v=>exact hK _ _ he
   | panicked c=>exact he.elim
   | outgrown=>exact absurd he onlyN_lets
 | halt x w'=>cases x <;> simp only[Oper.upon] at h ⊢ <;> exact h.elim
/-- the tail has begun: the frame as it is (a), and as it would be if no operation had come late (b) -/
structure TInv (P:Program) (ops:Array Oper) (N n m:Nat) (fl:Nat→Bool) (vs:Nat→Value) (L:Array Bool) (a b:Act):Prop where
 lsize:L.size=N
 lo:∀ j,j < n→L.getD j false=false→fl j=true
 tl:∀ j,n≤j→j < m→L.getD j false=true
 th:∀ j,m≤j→j < N→L.getD j true=false
 defers:a.defers=b.defers
 size:a.tmps.size=b.tmps.size
 same:∀ d,(∀ j,j < n→L.getD j false=false→dstOf ops j≠some d)→a.tmps[d]?=b.tmps[d]?
 ahead:∀ j,j < n→L.getD j false=false→∀ d,dstOf ops j=some d→d < b.tmps.size→b.tmps[d]?=some (vs j)
 run:∀ j,j < n→L.getD j false=false→∀ o,ops[j]?=some o→∀ w,(execOp b.eval o).run P w=.ok (.value (vs j)) w
theorem eval_of_tmps {a b:Act} {x:Operand} (h:∀ d,x=.tmp d→a.tmps[d]?=b.tmps[d]?):a.eval x=b.eval x:=by
 cases x with
 | tmp d=>simp only[Act.eval,Array.getD_eq_getD_getElem?,h d rfl]
 | const v=>rfl
 | global g=>rfl
 | func f=>rfl
theorem put_tmps {a:Act} {d e:Nat} {v:Value}:(a.put (some d) v).tmps[e]?=if e=d then (if d < a.tmps.size then some v else none) else a.tmps[e]?:=by
 simp only[Act.put]
 by_cases h:e=d
 ·subst h
  rw[if_pos rfl]
  by_cases hl:e < a.tmps.size
  ·rw[if_pos hl,Array.getElem?_setIfInBounds_self_of_lt hl]
  ·rw[if_neg hl,Array.getElem?_eq_none (by simpa using hl)]
 ·rw[if_neg h,Array.getElem?_setIfInBounds_ne (Ne.symm h)]
theorem put_size {a:Act} {d:Option Tmp} {v:Value}:(a.put d v).tmps.size=a.tmps.size:=by cases d <;> simp[Act.put]
theorem put_defers {a:Act} {d:Option Tmp} {v:Value}:(a.put d v).defers=a.defers:=by cases d <;> rfl
/-- one that comes up: the count goes down -/
theorem count_step {L:Array Bool} {i f:Nat} (hL:L.size=N) (hr:i∈Region.ready .any ops L) (hf:((List.range N).filter fun i=>!L.getD i true).length=f+1):((List.range N).filter fun j=>!(L.setIfInBounds i true).getD j true).length=f:=by
 have hlt:=ready_lt hr
 have hun:=(mem_ready.1 hr).1
 have h1:((List.range N).filter fun j=>!(L.setIfInBounds i true).getD j true)=((List.range N).filter fun j=>!L.getD j true).filter (· != i):=by
  rw[List.filter_filter]
  refine List.filter_congr fun j hj=>?_
  by_cases h:i=j
  ·subst h
   rw[getD_set_self hlt]
   simp
  ·rw[getD_set_ne true h]
   simp[Ne.symm h]
 rw[h1]
 have hnd:((List.range N).filter fun j=>!L.getD j true).Nodup:=List.nodup_range.filter _
 have hmem:i∈(List.range N).filter fun j=>!L.getD j true:=List.mem_filter.2 ⟨List.mem_range.2 (by rw[hL] at hlt;exact hlt),by rw[hun];rfl⟩
 rw[← List.Nodup.erase_eq_filter hnd,List.length_erase_of_mem hmem,hf]
 rfl
/-- the least that has not come up is ready -/
theorem least_ready {md:Nat} (hs:SepB ops N n ds eats fl md) {L:Array Bool} (hL:L.size=N) {j:Nat} (hj:j < N) (hu:L.getD j false=false):∃ i,i≤j∧i∈Region.ready .any ops L∧L.getD i false=false:=by
 induction j using Nat.strongRecOn with
 | _ j ih =>
  by_cases h:∃ i,i < j∧L.getD i false=false
  ·obtain⟨i,hi,h1⟩:=h
   obtain⟨k,h2,h3⟩:=ih i hi (by omega) h1
   exact⟨k,by omega,h3⟩
  ·have hlt:j < ops.size:=by rw[hs.size];exact hj
   refine⟨j,Nat.le_refl _,mem_ready.2 ⟨getD_in (by rw[hL];exact hj) hu,ops[j],Array.getElem?_eq_getElem hlt,fun e he hb=>?_⟩,hu⟩
   have:=hs.back j hj _ (Array.getElem?_eq_getElem hlt) e he hb
   cases h2:L.getD e.on false with
   | true=>rfl
   | false=>exact absurd ⟨e.on,this,h2⟩ h
theorem wpAny_float (hs:SepB ops N n ds eats fl 0) (hf:SepF ops n fl) {vs:Nat→Value}:∀ (f m:Nat) (L:Array Bool) (a b:Act) (w:World),TInv P ops N n m fl vs L a b→n≤m→m≤N→((List.range N).filter fun i=>!L.getD i true).length=f →
  wpList P ops (onlyN (Q .normal)) (ops.toList.drop m) b w→wpAny P .any ops Q f L a w:=by
 intro f
 induction f with
 | zero =>
  intro m L a b w inv hn hm hc h
  have hall:∀ j,j < N→L.getD j true=true:=fun j hj=>by
   cases h1:L.getD j true with
   | true=>rfl
   | false =>
    have:j∈(List.range N).filter fun i=>!L.getD i true:=List.mem_filter.2 ⟨List.mem_range.2 hj,by rw[h1];rfl⟩
    rw[List.length_eq_zero_iff.1 hc] at this
    cases this
  have hmN:m=N:=by
   rcases Nat.lt_or_ge m N with h1 | h1
   ·have:=inv.th m (Nat.le_refl _) h1
    rw[hall m h1] at this
    cases this
   ·omega
  have hall':∀ j,j < N→L.getD j false=true:=fun j hj=>by
   have h1:=hall j hj
   have:j < L.size:=by rw[inv.lsize];exact hj
   simp[this] at h1 ⊢
   exact h1
  have hab:a=b:=by
   have h1:a.tmps=b.tmps:=Array.ext_getElem? fun d=>inv.same d fun j hj hu=>by
    have:=hall' j (by have:=hs.le;omega)
    rw[this] at hu
    cases hu
   have h2:=inv.defers
   cases a
   cases b
   simp only at h1 h2
   rw[h1,h2]
  rw[List.drop_eq_nil_of_le (by simp[hs.size];omega)] at h
  refine⟨List.eq_nil_iff_forall_not_mem.2 fun j hj=>?_,by rw[hab];exact h⟩
  have h0:=(mem_ready.1 hj).1
  have hlt:=ready_lt hj
  rw[hall j (by rw[inv.lsize] at hlt;exact hlt)] at h0
  cases h0
 | succ f ih =>
  intro m L a b w inv hn hm hc h
  refine⟨fun h0=>?_,fun i hr=>?_⟩
  ·exfalso
   obtain⟨j,hj⟩:∃ j,j∈(List.range N).filter fun i=>!L.getD i true:=by
    cases hl:(List.range N).filter fun i=>!L.getD i true with
    | nil=>rw[hl] at hc;cases hc
    | cons j l=>exact⟨j,List.mem_cons_self ..⟩
   obtain⟨h1,h2⟩:=List.mem_filter.1 hj
   have h3:=List.mem_range.1 h1
   obtain⟨i,_,h4,_⟩:=least_ready hs inv.lsize h3 (getD_both (by simpa using h2))
   rw[h0] at h4
   cases h4
  ·have hlt:=ready_lt hr
   rw[inv.lsize] at hlt
   obtain⟨hun,o,ho,hall⟩:=mem_ready.1 hr
   have hun':=getD_both hun
   have hcnt:=count_step inv.lsize hr hc
   have hdo:dstOf ops i=o.dst:=by unfold dstOf;rw[ho];rfl
   have hsel:=Region.noSelect_spec hs.sel
   unfold wpOp
   rw[ho]
   simp only[]
   by_cases hin:i < n
   ·have hfl:=inv.lo i hin hun'
    obtain⟨hp,hg⟩:=hf.pure i hin hfl o ho
    rw[if_pos (by simp[Region.wanted,hg])]
    refine .inl ?_
    have hex:execOp a.eval o=execOp b.eval o:=execOp_congr o (fun cs b=>hsel i o cs b ho) fun x hx=>eval_of_tmps fun d hd=>inv.same d fun j hj hu hjd=>by
     have:=waits_listed hr (hs.dep i hin j (hs.opnd i hin o ho d (hd ▸ hx) j hj hjd))
     rw[this] at hu
     cases hu
    have hrun:=inv.run i hin hun' o ho w
    unfold Oper.wp
    rw[hex,hrun]
    simp only[Oper.upon]
    obtain⟨d,hd⟩:=hs.dst i hin
    have hod:o.dst=some d:=hdo ▸ hd
    refine ih m _ _ b w ⟨by simp[inv.lsize],fun j hj hu=>?_,fun j hj hj'=>getD_set_true (inv.tl j hj hj'),fun j hj hj'=>by rw[getD_set_ne true (by omega)];exact inv.th j hj hj',by rw[put_defers];exact inv.defers,by rw[put_size];exact inv.size,fun e he=>?_,fun j hj hu=>?_,fun j hj hu=>?_⟩ hn hm hcnt h
    ·have hji:i≠j:=fun e=>by subst e;rw[getD_set_self (by rw[inv.lsize];exact hlt)] at hu;cases hu
     rw[getD_set_ne false hji] at hu
     exact inv.lo j hj hu
    ·rw[hod,put_tmps]
     by_cases hed:e=d
     ·subst hed
      rw[if_pos rfl]
      by_cases hl:e < a.tmps.size
      ·rw[if_pos hl,inv.ahead i hin hun' e hd (by rw[← inv.size];exact hl)]
      ·rw[if_neg hl,Array.getElem?_eq_none (by rw[← inv.size];exact Nat.le_of_not_lt hl)]
     ·rw[if_neg hed]
      refine inv.same e fun j hj hu hje=>?_
      by_cases hji:i=j
      ·subst hji;rw[hd] at hje;cases hje;exact hed rfl
      ·exact he j hj (by rw[getD_set_ne false hji];exact hu) hje
    ·have hji:i≠j:=fun e=>by subst e;rw[getD_set_self (by rw[inv.lsize];exact hlt)] at hu;cases hu
     rw[getD_set_ne false hji] at hu
     exact inv.ahead j hj hu
    ·have hji:i≠j:=fun e=>by subst e;rw[getD_set_self (by rw[inv.lsize];exact hlt)] at hu;cases hu
     rw[getD_set_ne false hji] at hu
     exact inv.run j hj hu
   ·have him:i=m:=by
     rcases Nat.lt_trichotomy i m with h3 | h3 | h3
     ·rw[inv.tl i (by omega) h3] at hun'
      cases hun'
     ·exact h3
     ·have h4:=waits_listed hr (by have:=hs.chain rfl (i - 1) (by omega) (by omega);rwa [show i - 1+1=i by omega] at this)
      have h5:=getD_both (inv.th (i - 1) (by omega) (by omega))
      rw[h4] at h5
      cases h5
    subst him
    have hg:=hf.bare i (by omega) o ho
    rw[if_pos (by simp[Region.wanted,hg])]
    have hlt2:i < ops.size:=by rw[hs.size];exact hlt
    have hoi:ops.toList[i]'(by simpa using hlt2)=o:=by
     have:=Array.getElem?_eq_getElem hlt2
     rw[ho] at this
     simpa using (Option.some.inj this).symm
    rw[List.drop_eq_getElem_cons (by simpa using hlt2),hoi] at h
    unfold wpList at h
    rw[if_pos (by simp[Region.wanted,hg])] at h
    refine .inl ?_
    have h:=h.resolve_right fun h=>onlyN_lets h.2
    have hex:execOp a.eval o=execOp b.eval o:=execOp_congr o (fun cs b=>hsel i o cs b ho) fun x hx=>eval_of_tmps fun d hd=>inv.same d fun j hj hu hjd=>by
     have:=waits_listed hr (hf.topnd i (by omega) o ho d (hd ▸ hx) j hj (inv.lo j hj hu) hjd)
     rw[this] at hu
     cases hu
    have hset:∀ j,j≠i→(L.setIfInBounds i true).getD j false=L.getD j false:=fun j hj=>getD_set_ne false (Ne.symm hj)
    have step:∀ (a1 b1:Act) (v:Value) (w':World),a1.tmps=a.tmps→b1.tmps=b.tmps→a1.defers=b1.defers→wpList P ops (onlyN (Q .normal)) (ops.toList.drop (i+1)) (b1.put o.dst v) w'→wpAny P .any ops Q f (L.setIfInBounds i true) (a1.put o.dst v) w':=by
     intro a1 b1 v w' ha1 hb1 hd1 hw
     refine ih (i+1) _ _ _ w' ⟨by simp[inv.lsize],fun j hj hu=>?_,fun j hj hj'=>?_,fun j hj hj'=>by rw[getD_set_ne true (by omega)];exact inv.th j (by omega) hj',by rw[put_defers,put_defers];exact hd1,by rw[put_size,put_size,ha1,hb1];exact inv.size,fun e he=>?_,fun j hj hu d hd hl=>?_,fun j hj hu oj hoj w2=>?_⟩ (by omega) (by omega) hcnt hw
     ·rw[hset j (by omega)] at hu
      exact inv.lo j hj hu
     ·by_cases hji:i=j
      ·subst hji;exact getD_set_self (by rw[inv.lsize];exact hlt) false
      ·exact getD_set_true (inv.tl j hj (by omega))
     ·have h1:a.tmps[e]?=b.tmps[e]?:=inv.same e fun j hj hu=>he j hj (by rw[hset j (by omega)];exact hu)
      cases hod:o.dst with
      | none=>show a1.tmps[e]?=b1.tmps[e]?;rw[ha1,hb1];exact h1
      | some d=>rw[put_tmps,put_tmps,ha1,hb1,inv.size,h1]
     ·rw[hset j (by omega)] at hu
      rw[put_size,hb1] at hl
      have h1:=inv.ahead j hj hu d hd hl
      cases hod:o.dst with
      | none=>show b1.tmps[d]?=_;rw[hb1];exact h1
      | some d' =>
       have h2:d≠d':=fun e=>(hf.tdst i (by omega) d' (hdo.trans hod) j hj).1 (e ▸ hd)
       rw[put_tmps,if_neg h2,hb1]
       exact h1
     ·rw[hset j (by omega)] at hu
      have h1:=inv.run j hj hu oj hoj w2
      have h2:execOp (b1.put o.dst v).eval oj=execOp b.eval oj:=execOp_congr oj (fun cs b=>hsel j oj cs b hoj) fun x hx=>eval_of_tmps fun d hd=>by
       cases hod:o.dst with
       | none=>show b1.tmps[d]?=_;rw[hb1]
       | some d' =>
        have h2:d≠d':=fun e=>(hf.tdst i (by omega) d' (hdo.trans hod) j hj).2 (inv.lo j hj hu) oj hoj (e ▸ hd ▸ hx)
        rw[put_tmps,if_neg h2,hb1]
      rw[h2]
      exact h1
    exact wp_frames h hex (fun v w' hw=>step a b v w' rfl rfl inv.defers hw) (fun d w' hw=>step { a with defers:=d::a.defers } { b with defers:=d::b.defers } undef w' rfl rfl (by simp[inv.defers]) hw)
/-- those that come late, ahead of time -/
theorem SInv.virt (hs:SepB ops N n ds eats fl 0) (hf:SepF ops n fl) (hN:∀ i,i < n→∀ d,dstOf ops i=some d→d < a0.tmps.size)
  (hdep:∀ i vs vs' v w,i < n→(∀ j∈ds i,vs j=vs' j)→R i vs v w→R i vs' v w)
  (hloc:∀ i vs v w w',i < n→R i vs v w→Below B W w→Below B W w'→w.heap.size≤w'.heap.size→(∀ k,ob i v=some k→w'.heap[k]?=w.heap[k]?)→((∀ i,eats i=[])→Below w.heap.size w w')→R i vs v w')
  (hstep:∀ i,i < n→∀ o,ops[i]?=some o→∀ vs w,(∀ k,k < W.heap.size→(∀ i,ini i≠some k)→w.heap[k]?=W.heap[k]?)→GivenB (fun j=>R j vs) ob W B (ini i) vs (ds i) w→Made P (LaysB (fun j=>R j vs) ob B ini vs (eats i) i w) ((execOp (frm ops a0 vs (ds i)).eval o).run P w)) :
  ∀ (c:Nat) (vs:Nat→Value) (L:Array Bool) (a:Act) (w:World),((List.range n).filter fun i=>!L.getD i false).length=c→SInv ops N n eats R ob W B ini a0 vs L a w→(∀ j,j < n→L.getD j false=false→fl j=true) →
   ∃ vs' L' b,SInv ops N n eats R ob W B ini a0 vs' L' b w∧(∀ j,j < n→L'.getD j false=true)∧(∀ j,L.getD j false=true→vs' j=vs j)∧a.defers=b.defers∧a.tmps.size=b.tmps.size ∧
    (∀ d,(∀ j,j < n→L.getD j false=false→dstOf ops j≠some d)→a.tmps[d]?=b.tmps[d]?) ∧
    (∀ j,j < n→L.getD j false=false→∀ o,ops[j]?=some o→∀ w,(execOp b.eval o).run P w=.ok (.value (vs' j)) w):=by
 intro c
 induction c with
 | zero =>
  intro vs L a w hc inv hfl
  have hall:∀ j,j < n→L.getD j false=true:=fun j hj=>by
   cases h:L.getD j false with
   | true=>rfl
   | false =>
    have:j∈(List.range n).filter fun i=>!L.getD i false:=List.mem_filter.2 ⟨List.mem_range.2 hj,by rw[h];rfl⟩
    rw[List.length_eq_zero_iff.1 hc] at this
    cases this
  exact⟨vs,L,a,inv,hall,fun _ _=>rfl,rfl,rfl,fun _ _=>rfl,fun j hj hu=>by rw[hall j hj] at hu;cases hu⟩
 | succ c ih =>
  intro vs L a w hc inv hfl
  obtain⟨j,hj⟩:∃ j,j∈(List.range n).filter fun i=>!L.getD i false:=by
   cases hl:(List.range n).filter fun i=>!L.getD i false with
   | nil=>rw[hl] at hc;cases hc
   | cons j l=>exact⟨j,List.mem_cons_self ..⟩
  obtain⟨h1,h2⟩:=List.mem_filter.1 hj
  have hjn:=List.mem_range.1 h1
  obtain⟨i,hij,hr,hun'⟩:=least_ready hs inv.lsize (show j < N by have:=hs.le;omega) (by simpa using h2)
  have hin:i < n:=by omega
  obtain⟨hun,o,ho,hall⟩:=mem_ready.1 hr
  have hlt:=ready_lt hr
  obtain⟨hp,hg⟩:=hf.pure i hin (hfl i hin hun') o ho
  have hdo:dstOf ops i=o.dst:=by unfold dstOf;rw[ho];rfl
  have hsel:=Region.noSelect_spec hs.sel
  have hdlt:∀ j∈ds i,j < n:=fun j hj=>by
   have hw:=hs.dep i hin j hj
   unfold waits at hw
   rw[ho] at hw
   obtain⟨e,he,hb⟩:=Array.any_eq_true'.1 hw
   simp only[Bool.and_eq_true,beq_iff_eq] at hb
   have:=hs.back i (by have:=hs.le;omega) o ho e he hb.1
   omega
  have hex:execOp a.eval o=execOp (frm ops a0 vs (ds i)).eval o:=execOp_congr o (fun cs b=>hsel i o cs b ho) (put_operand fun d hd=>by
   have hdl:∀ j∈ds i,L.getD j false=true:=fun j hj=>waits_listed hr (hs.dep i hin j hj)
   by_cases h:∃ j,j < n∧dstOf ops j=some d
   ·obtain⟨j,hj,hjd⟩:=h
    have hm:=hs.opnd i hin o ho d hd j hj hjd
    rw[frm_slot hs vs (ds i) hdlt j hm d hjd (hN j hj d hjd),inv.slot j hj (hdl j hm) d hjd (hN j hj d hjd)]
   ·rw[frm_rest vs (ds i) d fun j hj hjd=>h ⟨j,hdlt j hj,hjd⟩,inv.rest d fun j hj _ hjd=>h ⟨j,hj,hjd⟩])
  have hm:=hstep i hin o ho vs w inv.kp (inv.given hs hin hr)
  obtain⟨nx,w1,hrun⟩:∃ nx w1,(execOp (frm ops a0 vs (ds i)).eval o).run P w=.ok nx w1:=by
   generalize (execOp (frm ops a0 vs (ds i)).eval o).run P w=r at hm
   cases r with
   | ok nx w1=>exact⟨nx,w1,rfl⟩
   | halt x w1=>exact hm.elim
  obtain⟨rfl,v,rfl,hpure⟩:=pure_run hp hrun
  rw[hrun] at hm
  have hl:LaysB (fun j=>R j vs) ob B ini vs (eats i) i w1 v w1:=hm
  have inv':=inv.step hs hdep hloc hin hr hl
  have hcnt:((List.range n).filter fun j=>!(L.setIfInBounds i true).getD j false).length=c:=by
   have e1:((List.range n).filter fun j=>!(L.setIfInBounds i true).getD j false)=((List.range n).filter fun j=>!L.getD j false).filter (· != i):=by
    rw[List.filter_filter]
    refine List.filter_congr fun j hj=>?_
    by_cases h:i=j
    ·subst h
     rw[getD_set_self hlt]
     simp
    ·rw[getD_set_ne false h]
     simp[Ne.symm h]
   rw[e1]
   have hnd:((List.range n).filter fun j=>!L.getD j false).Nodup:=List.nodup_range.filter _
   have hmem:i∈(List.range n).filter fun j=>!L.getD j false:=List.mem_filter.2 ⟨List.mem_range.2 hin,by rw[hun'];rfl⟩
   rw[← List.Nodup.erase_eq_filter hnd,List.length_erase_of_mem hmem,hc]
   rfl
  obtain⟨vs',L',b,i1,i2,i3,i4,i5,i6,i7⟩:=ih _ _ _ w1 hcnt inv' fun j hj hu=>by
   have hji:i≠j:=fun e=>by subst e;rw[getD_set_self hlt] at hu;cases hu
   rw[getD_set_ne false hji] at hu
   exact hfl j hj hu
  obtain⟨d,hd⟩:=hs.dst i hin
  have hset:∀ j,j≠i→(L.setIfInBounds i true).getD j false=L.getD j false:=fun j hj=>getD_set_ne false (Ne.symm hj)
  have hsame:∀ e,(∀ j,j < n→L.getD j false=false→dstOf ops j≠some e)→a.tmps[e]?=b.tmps[e]?:=fun e he=>by
   rw[← i6 e fun j hj hu=>?_]
   ·rw[hd,put_tmps,if_neg (show ¬ e=d from fun h=>he i hin hun' (by rw[h];exact hd))]
   ·by_cases hji:j=i
    ·subst hji;rw[getD_set_self hlt] at hu;cases hu
    ·rw[hset j hji] at hu;exact he j hj hu
  have hvi:vs' i=v:=by
   rw[i3 i (getD_set_self hlt false),if_pos rfl]
  refine⟨vs',L',b,i1,i2,fun j hj=>?_,by rw[← i4,put_defers],by rw[← i5,put_size],hsame,fun j hj hu oj hoj w2=>?_⟩
  ·have hji:j≠i:=fun e=>by subst e;rw[hj] at hun';cases hun'
   rw[i3 j (by rw[hset j hji];exact hj),if_neg hji]
  ·by_cases hji:j=i
   ·subst hji
    rw[ho] at hoj
    cases hoj
    have h3:execOp b.eval o=execOp a.eval o:=execOp_congr o (fun cs b=>hsel j o cs b ho) fun x hx=>(eval_of_tmps fun e he=>hsame e fun k hk hu2 hke=>by
     have:=waits_listed hr (hs.dep j hin k (hs.opnd j hin o ho e (he ▸ hx) k hk hke))
     rw[this] at hu2
     cases hu2).symm
    rw[h3,hex,hvi]
    exact hpure w2
   ·exact i7 j hj (by rw[hset j hji];exact hu) oj hoj w2
/-- **A region that draws its order**: the operations ahead of the tail are proved one by one; those of fl may come late. -/
theorem wp_region_core {id:Nat} {a0:Act} {W:World} {l:List Oper} (n:Nat) (ds eats:Nat→List Nat) (fl:Nat→Bool) (R:Nat→(Nat→Value)→Value→World→Prop) (ob:Nat→Value→Option Nat) (B:Nat) (ini:Nat→Option Nat) (hm:P.follows .mixedOrders=true) (hBB:sepG true l.toArray l.length n ds eats fl=true) (hFF:sepF l.toArray n fl=true)
  (hgd:∀ i,i < n→∀ o,l[i]?=some o→∀ g b,o.guard=some (g,b)→∀ vs v w,R g vs v w→v=.bool b)
  (hN:(List.range n).all (fun i=>match dstOf l.toArray i with | some d=>decide (d < a0.tmps.size) | none=>true)=true)
  (hB:B≤W.heap.size) (hini:∀ i k,ini i=some k→k < W.heap.size∧B≤k) (iinj:∀ i i' k,ini i=some k→ini i'=some k→i=i')
  (hdep:∀ i vs vs' v w,i < n→(∀ j∈ds i,vs j=vs' j)→R i vs v w→R i vs' v w)
  (hloc:∀ i vs v w w',i < n→R i vs v w→Below B W w→Below B W w'→w.heap.size≤w'.heap.size→(∀ k,ob i v=some k→w'.heap[k]?=w.heap[k]?)→((∀ i,eats i=[])→Below w.heap.size w w')→R i vs v w')
  (hstep:∀ i,i < n→∀ o,l[i]?=some o→∀ vs w,(∀ k,k < W.heap.size→(∀ i,ini i≠some k)→w.heap[k]?=W.heap[k]?)→GivenB (fun j=>R j vs) ob W B (ini i) vs (ds i) w→Made P (LaysB (fun j=>R j vs) ob B ini vs (eats i) i w) ((execOp (frm l.toArray a0 vs (ds i)).eval o).run P w))
  (hend:∀ vs w,(∀ k,k < W.heap.size→(∀ i,ini i≠some k)→w.heap[k]?=W.heap[k]?)→Below B W w→(∀ i,i < n→(∀ j,j < n→i ∉ eats j)→R i vs (vs i) w∧∀ k,ob i (vs i)=some k→B≤k∧k < w.heap.size) →
   (∀ i,i < n→(∀ j,j < n→i ∉ eats j)→∀ i',i' < n→(∀ j,j < n→i' ∉ eats j)→i≠i'→∀ k,ob i (vs i)=some k→ob i' (vs i')≠some k)→wpList P l.toArray (onlyN (Q .normal)) (l.drop n) (frm l.toArray a0 vs (List.range n)) w) :
  (Code.region id l.toArray true).wp P Q a0 W:=by
 have hs:=SepB.ofG hBB
 have hf:=SepF.of hFF
 have hN':∀ i,i < n→∀ d,dstOf l.toArray i=some d→d < a0.tmps.size:=fun i hi d hd=>by
  have:=List.all_eq_true.1 hN i (List.mem_range.2 hi)
  rw[hd] at this
  simpa using this
 have hstep':∀ i,i < n→∀ o,l.toArray[i]?=some o→∀ vs w,(∀ k,k < W.heap.size→(∀ i,ini i≠some k)→w.heap[k]?=W.heap[k]?)→GivenB (fun j=>R j vs) ob W B (ini i) vs (ds i) w→Made P (LaysB (fun j=>R j vs) ob B ini vs (eats i) i w) ((execOp (frm l.toArray a0 vs (ds i)).eval o).run P w):=fun i hi o ho=>hstep i hi o (by simpa using ho)
 refine wp_region_any hm ?_
 refine wpAny_pre (W:=W) (R:=R) (ob:=ob) (B:=B) (ini:=ini) hs (by decide) hN' (fun i hi o ho=>hgd i hi o (by simpa using ho)) hdep hloc hstep' (fun f L a w vs inv hr hcnt=>?_) _ _ _ _ (fun _=>undef) ⟨rfl,rfl,fun i _ h=>?_,fun _ _=>rfl,⟨rfl,rfl,rfl,Nat.le_refl _,fun _ _=>rfl⟩,fun i _ h=>?_,fun i _ h=>?_,by simp,fun j hj hj'=>by simp[hj'],hB,hini,iinj,(fun _ _ _ _=>rfl),fun i _ k _ j _ h=>?_,fun k _ h=>?_,fun _ _ _=>rfl,fun i _ h=>?_⟩ ?_
 ·have hnf:∀ j,j < n→L.getD j false=false→fl j=true:=fun j hj hu=>by
   cases h:fl j with
   | true=>rfl
   | false =>
    have:=sinks_listed hr inv.closed _ j (hs.last (by decide) j hj h)
    rw[this] at hu
    cases hu
  obtain⟨vs',L',b,i1,i2,i3,i4,i5,i6,i7⟩:=SInv.virt hs hf hN' hdep hloc hstep' _ vs L a w rfl inv hnf
  have hae:b=frm l.toArray a0 vs' (List.range n):=by
   have h1:b.tmps=(frm l.toArray a0 vs' (List.range n)).tmps:=by
    refine Array.ext_getElem? fun d=>?_
    by_cases h:∃ j,j < n∧dstOf l.toArray j=some d
    ·obtain⟨j,hj,hjd⟩:=h
     rw[frm_slot hs vs' (List.range n) (fun k hk=>List.mem_range.1 hk) j (List.mem_range.2 hj) d hjd (hN' j hj d hjd),i1.slot j hj (i2 j hj) d hjd (hN' j hj d hjd)]
    ·rw[frm_rest vs' (List.range n) d fun j hj hjd=>h ⟨j,List.mem_range.1 hj,hjd⟩,i1.rest d fun j hj _ hjd=>h ⟨j,hj,hjd⟩]
   have h2:b.defers=(frm l.toArray a0 vs' (List.range n)).defers:=by rw[frm_defers,i1.defers]
   cases b
   cases hq:frm l.toArray a0 vs' (List.range n)
   rw[hq] at h1 h2
   simp only at h1 h2
   rw[h1,h2]
  have hfin:=hend vs' w i1.kp i1.below (fun j hj hv=>i1.holds j hj (i2 j hj) fun m hm _=>hv m hm) fun j hj hv j' hj' hv' hne=>i1.apart j hj (i2 j hj) (fun m hm _=>hv m hm) j' hj' (i2 j' hj') (fun m hm _=>hv' m hm) hne
  rw[← hae] at hfin
  have hc2:((List.range l.length).filter fun i=>!L.getD i true).length=f+1:=by
   have hlt:=ready_lt hr
   have hmem:n∈(List.range l.length).filter fun j=>!L.getD j true:=List.mem_filter.2 ⟨List.mem_range.2 (by rw[inv.lsize] at hlt;exact hlt),by rw[(mem_ready.1 hr).1];rfl⟩
   obtain⟨c,hc⟩:∃ c,((List.range l.length).filter fun i=>!L.getD i true).length=c+1:=by
    cases hl:(List.range l.length).filter fun i=>!L.getD i true with
    | nil=>rw[hl] at hmem;cases hmem
    | cons x y=>exact⟨y.length,rfl⟩
   have:=count_step (ops:=l.toArray) inv.lsize hr hc
   rw[hcnt] at this
   rw[hc,this]
  have:=wpAny_float (P:=P) (Q:=Q) hs hf (vs:=vs') (f+1) n L a b w ⟨inv.lsize,hnf,fun j hj hj'=>by omega,fun j hj hj'=>inv.nlast j hj hj',i4,i5,i6,fun j hj hu d hd hl=>i1.slot j hj (i2 j hj) d hd (hN' j hj d hd),i7⟩ (Nat.le_refl _) (hs.le) hc2 hfin
  exact this.2 n hr
 ·rw[getD_replicate_false] at h;cases h
 ·rw[getD_replicate_false] at h;cases h
 ·rw[getD_replicate_false] at h;cases h
 ·rw[getD_replicate_false] at h;cases h
 ·rw[getD_replicate_false] at h;cases h
 ·rw[getD_replicate_false] at h;cases h
 ·rw[hs.size]
  have:((List.range l.length).filter fun i=>!(Array.replicate l.length false).getD i true)=List.range l.length:=by
   refine List.filter_eq_self.2 fun i hi=>?_
   have:=List.mem_range.1 hi
   simp[this]
  rw[this]
  simp
/-- **A region that draws its order, whose operations ahead of the tail only add memory; those of fl may come late.** -/
theorem wp_region_addsF {id:Nat} {a0:Act} {W:World} {l:List Oper} (n:Nat) (ds:Nat→List Nat) (fl:Nat→Bool) (E:Nat→Ent W) (hm:P.follows .mixedOrders=true) (hBB:sepG true l.toArray l.length n ds (fun _=>[]) fl=true) (hFF:sepF l.toArray n fl=true)
  (hgd:∀ i,i < n→∀ o,l[i]?=some o→∀ g b,o.guard=some (g,b)→∀ vs v w,(E g).R vs v w→v=.bool b)
  (hdl:(List.range n).all (fun i=>(E i).dl.all ((ds i).contains ·))=true)
  (hN:(List.range n).all (fun i=>match dstOf l.toArray i with | some d=>decide (d < a0.tmps.size) | none=>true)=true)
  (hstep:∀ i,i < n→∀ o,l[i]?=some o→∀ vs w,Below W.heap.size W w→(∀ j∈ds i,(E j).R vs (vs j) w)→Made P (Adds (E i) vs w) ((execOp (frm l.toArray a0 vs (ds i)).eval o).run P w))
  (hend:∀ vs w,Below W.heap.size W w→(∀ i,i < n→(E i).R vs (vs i) w∧∀ k,(E i).ob (vs i)=some k→W.heap.size≤k∧k < w.heap.size)→(∀ i,i < n→∀ i',i' < n→i≠i'→∀ k,(E i).ob (vs i)=some k→(E i').ob (vs i')≠some k)→wpList P l.toArray (onlyN (Q .normal)) (l.drop n) (frm l.toArray a0 vs (List.range n)) w) :
  (Code.region id l.toArray true).wp P Q a0 W :=
 wp_region_core n ds (fun _=>[]) fl (fun i=>(E i).R) (fun i=>(E i).ob) W.heap.size (fun _=>none) hm hBB hFF hgd hN (Nat.le_refl _) (fun _ _ h=>by cases h) (fun _ _ _ h=>by cases h)
  (fun i vs vs' v w hi hj h=>(E i).dep vs vs' v w (fun j hj'=>hj j (by
   have:=List.all_eq_true.1 (List.all_eq_true.1 hdl i (List.mem_range.2 hi)) j hj'
   simpa using this)) h)
  (fun i vs v w w' _ hR hb hb' _ _ hx=>(E i).loc vs v w w' hR hb (hx fun _=>rfl))
  (fun i hi o ho vs w _ hg=>(hstep i hi o ho vs w hg.2.1 fun j hj=>(hg.2.2.1 j hj).1).mono fun v w' h=>⟨h.1,h.2.1.os,h.2.1.tape,h.2.1.output,h.2.1.size,fun k hk _=>h.2.1.block k hk,fun k hk=>⟨(h.2.2 k hk).2,Nat.le_trans hg.2.1.size (h.2.2 k hk).1,.inl (h.2.2 k hk).1⟩⟩)
  (fun vs w _ h1 h2 h3=>hend vs w h1 (fun i hi=>h2 i hi (fun j _ h=>by cases h)) fun i hi i' hi' hne k hk=>h3 i hi (fun j _ h=>(by cases h)) i' hi' (fun j _ h=>(by cases h)) hne k hk)
def bareB (l:List Oper) (n:Nat):Bool:=(List.range n).all fun i=>((l[i]?).map fun o=>o.guard.isNone).getD true
/-- .. without guarded operations -/
theorem wp_region_addsF0 {id:Nat} {a0:Act} {W:World} {l:List Oper} (n:Nat) (ds:Nat→List Nat) (fl:List Nat) (E:Nat→Ent W) (hm:P.follows .mixedOrders=true) (hBB:sepG true l.toArray l.length n ds (fun _=>[]) (fun i=>fl.contains i)=true) (hFF:sepF l.toArray n (fun i=>fl.contains i)=true) (hb:bareB l n=true)
  (hdl:(List.range n).all (fun i=>(E i).dl.all ((ds i).contains ·))=true)
  (hN:(List.range n).all (fun i=>match dstOf l.toArray i with | some d=>decide (d < a0.tmps.size) | none=>true)=true)
  (hstep:∀ i,i < n→∀ o,l[i]?=some o→∀ vs w,Below W.heap.size W w→(∀ j∈ds i,(E j).R vs (vs j) w)→Made P (Adds (E i) vs w) ((execOp (frm l.toArray a0 vs (ds i)).eval o).run P w))
  (hend:∀ vs w,Below W.heap.size W w→(∀ i,i < n→(E i).R vs (vs i) w∧∀ k,(E i).ob (vs i)=some k→W.heap.size≤k∧k < w.heap.size)→(∀ i,i < n→∀ i',i' < n→i≠i'→∀ k,(E i).ob (vs i)=some k→(E i').ob (vs i')≠some k)→wpList P l.toArray (onlyN (Q .normal)) (l.drop n) (frm l.toArray a0 vs (List.range n)) w) :
  (Code.region id l.toArray true).wp P Q a0 W :=
 wp_region_addsF n ds (fun i=>fl.contains i) E hm hBB hFF (fun i hi o ho g b hgb=>by
  have:=List.all_eq_true.1 hb i (List.mem_range.2 hi)
  rw[ho] at this
  simp[hgb] at this) hdl hN hstep hend
/-- .. with guarded operations whose guards hold -/
theorem wp_region_addsG {id:Nat} {a0:Act} {W:World} {l:List Oper} {Q:Exit→Act→World→Prop} (n:Nat) (ds:Nat→List Nat) (E:Nat→Ent W) (hm:P.follows .mixedOrders=true) (hBB:sepG true l.toArray l.length n ds (fun _=>[])=true)
  (hdl:(List.range n).all (fun i=>(E i).dl.all ((ds i).contains ·))=true)
  (hN:(List.range n).all (fun i=>match dstOf l.toArray i with | some d=>decide (d < a0.tmps.size) | none=>true)=true)
  (hgd:∀ i,i < n→∀ o,l[i]?=some o→∀ g b,o.guard=some (g,b)→∀ vs v w,(E g).R vs v w→v=.bool b)
  (hstep:∀ i,i < n→∀ o,l[i]?=some o→∀ vs w,Below W.heap.size W w→(∀ j∈ds i,(E j).R vs (vs j) w)→Made P (Adds (E i) vs w) ((execOp (frm l.toArray a0 vs (ds i)).eval o).run P w))
  (hend:∀ vs w,Below W.heap.size W w→(∀ i,i < n→(E i).R vs (vs i) w∧∀ k,(E i).ob (vs i)=some k→W.heap.size≤k∧k < w.heap.size)→(∀ i,i < n→∀ i',i' < n→i≠i'→∀ k,(E i).ob (vs i)=some k→(E i').ob (vs i')≠some k)→wpList P l.toArray Q (l.drop n) (frm l.toArray a0 vs (List.range n)) w) :
  (Code.region id l.toArray true).wp P Q a0 W :=
 wp_region_adds n ds E hm hBB hgd hdl hN hstep hend
theorem onlyN_normal {K:Act→World→Prop} {a:Act} {w:World}:onlyN K .normal a w=K a w:=rfl
end
end
end Go.Proofs.YtaijmgkjbbiboaaGreat
