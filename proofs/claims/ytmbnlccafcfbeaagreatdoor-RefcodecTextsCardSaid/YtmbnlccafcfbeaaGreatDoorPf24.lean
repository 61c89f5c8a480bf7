/- Parts of the proof: OpenK, OpenM. -/
import Derived.Deep.Fields
import Derived.Deep.Slices
import Derived.OpenShut
import Derived.ProofKit
import Derived.SizedLaws
import Derived.Test.YtmbnlccafcfbeaaGreatDoorChecked
import Derived.Test.YtmbnlccafcfbeaaGreatDoorPfA
import Derived.Test.YtmbnlccafcfbeaaGreatDoorPf10
import Derived.Test.YtmbnlccafcfbeaaGreatDoorPf19
set_option linter.unusedVariables false
set_option linter.unusedSimpArgs false
set_option linter.unusedSectionVars false
set_option maxRecDepth 100000
set_option maxHeartbeats 64000000
namespace Go.Proofs.YtmbnlccafcfbeaaGreatDoor
section
open Go.ChangeShapes Go.WideShapes Go.ChangeAt Go.RowKit Go.Deep
def SlR {α:Type} (R:World→α→List Value→Prop) (w:World) (s:Nat) (A:Option Addr) (n:Nat) (xs:List α):Prop :=
 xs.length=n∧(n=0 ∨ ∃ b o,A=some ⟨b,o,none⟩∧b < w.heap.size∧∀ i x,xs[i]?=some x→∃ r:List Value,r.length=s∧R w x r∧∀ j v,r[j]?=some v→w.cell? ⟨b,o+i*s+j,none⟩=some v)
theorem SlR.nil {α:Type} (R:World→α→List Value→Prop) (w:World) (s:Nat) (A:Option Addr):SlR R w s A 0 []:=⟨rfl,.inl rfl⟩
theorem SlR.get {α:Type} {R:World→α→List Value→Prop} {w:World} {s n:Nat} {A:Option Addr} {xs:List α} (h:SlR R w s A n xs) {k:Nat} (hk:k < n) :
  ∃ b o x r,A=some ⟨b,o,none⟩∧b < w.heap.size∧xs[k]?=some x∧r.length=s∧R w x r∧∀ j v,r[j]?=some v→w.cell? ⟨b,o+k*s+j,none⟩=some v:=by
 rcases h.2 with h0 | ⟨b,o,hA,hb,hc⟩
 ·omega
 ·obtain⟨x,hx⟩:∃ x,xs[k]?=some x:=⟨_,List.getElem?_eq_getElem (by rw[h.1];exact hk)⟩
  obtain⟨r,h1,h2,h3⟩:=hc k x hx;exact⟨b,o,x,r,hA,hb,hx,h1,h2,h3⟩
def Wgt {H:Type} (P:Program) (t:TypeId) (d:DataW H):Prop:=∀ n∈d.weights P t,n≤reachBytes
theorem weightsAll_mem {H:Type} {P:Program} {e:TypeId} {l:List (DataW H)} {d:DataW H} (hd:d∈l) {n:Nat} (hn:n∈d.weights P e):n∈DataW.weightsAll P e l:=by
 induction l with
 | nil=>cases hd
 | cons a r ih =>
  unfold DataW.weightsAll;rcases List.mem_cons.1 hd with rfl | h
  ·exact List.mem_append_left _ hn
  ·exact List.mem_append_right _ (ih h)
theorem ql6 {H:Type} {P:Program}:∀ {ts:List TypeId} {l:List (DataW H)} (i:Nat) {t:TypeId} {d:DataW H},ts[i]?=some t→l[i]?=some d→∀ {n:Nat},n∈d.weights P t→n∈DataW.weightsEach P ts l
 | [],_,i,t,d,ht,_,n,_=>by cases ht
 | _::_,[],i,t,d,_,hd,n,_=>by cases hd
 | a::ts,b::l,0,t,d,ht,hd,n,hn=>by
  simp at ht hd;subst ht;subst hd
  unfold DataW.weightsEach;exact List.mem_append_left _ hn
 | a::ts,b::l,i+1,t,d,ht,hd,n,hn=>by
  unfold DataW.weightsEach;exact List.mem_append_right _ (ql6 i (by simpa using ht) (by simpa using hd) hn)
theorem Wgt.part {H:Type} {P:Program} {t:TypeId} {fs:Array Field} (ht:P.underlying t=some (.struct fs)) {parts:List (DataW H)} (h:Wgt P t (.agg parts)) (i:Nat) {f:Field} {d:DataW H} (hf:fs[i]?=some f) (hd:parts[i]?=some d):Wgt P f.type d:=fun n hn =>
 h n (by
  simp only[DataW.weights,ht]
  exact ql6 i (by simpa using ⟨f,hf,rfl⟩) hd hn)
theorem wgt_of {H:Type} {P:Program} {ts:List TypeId} {ds:List (DataW H)} (h:(DataW.weightsEach P ts ds).all (·≤reachBytes)=true) {j:Nat} {t:TypeId} {d:DataW H} (ht:ts[j]?=some t) (hd:ds[j]?=some d):Wgt P t d :=
 fun n hn=>by simpa using List.all_eq_true.1 h n (DataW.weights_mem_each ht hd n hn)
section
variable {H:Type} {enc:TypeId × Value→H} {w:World} {base:Nat} {spare:Nat→Bool} {held:Bool}
theorem spot_of_cell {a:Addr} {v:Value} (h:w.cell? a=some v):a=⟨a.block,a.off,none⟩:=by
 have:=World.cell?_spot h;cases a
 simp_all
theorem qu6 {α:Type} {p:Nat→α→Prop}:∀ n,(∀ i,i < n→∃ x,p i x)→∃ l:List α,l.length=n∧∀ i x,l[i]?=some x→p i x
 | 0,_=>⟨[],rfl,fun i x h=>by cases h⟩
 | n+1,h=>by
  obtain⟨l,h1,h2⟩:=qu6 n (fun i hi=>h i (by omega));obtain⟨x,hx⟩:=h n (by omega);refine⟨l++[x],by simp[h1],fun i y hy=>?_⟩
  by_cases hi:i < n
  ·rw[List.getElem?_append_left (by omega)] at hy;exact h2 i y hy
  ·have hin:i=n:=by
    have:=(List.getElem?_eq_some_iff.1 hy).1
    simp[h1] at this
    omega
   subst hin;rw[List.getElem?_append_right (by omega),h1] at hy
   simp at hy
   exact hy ▸ hx
theorem SlR.all {α:Type} {R:World→α→List Value→Prop} {s n:Nat} {A:Option Addr} {xs:List α} (h:SlR R w s A n xs) {P:α→Prop} (hP:∀ x r,R w x r→P x):∀ x∈xs,P x:=fun x hx=>by
 obtain⟨i,hi⟩:=List.mem_iff_getElem?.1 hx;have hil:=(List.getElem?_eq_some_iff.1 hi).1;obtain⟨b,o,y,r,_,_,hy,_,hR,_⟩:=h.get (k:=i) (by rw[← h.1];exact hil);rw[hi] at hy;cases hy;exact hP _ _ hR
/-- one reference -/
def RfR (w:World) (x:Rf) (r:List Value):Prop:=r=rfC x∧rfP x
theorem qr3:Tryz.prog.cellsOf 26=8:=by kernel_rfl
theorem qh6:Tryz.prog.cellsOf 3=1:=by kernel_rfl
theorem cellsI64:Tryz.prog.cellsOf 2=1:=by kernel_rfl
theorem qm5:Tryz.prog.cellsOf 22=1:=by kernel_rfl
theorem cellsB:Tryz.prog.cellsOf 4=1:=by kernel_rfl
theorem cellsID:Tryz.prog.cellsOf 24=2:=by kernel_rfl
theorem wfI {x:Int} (h:(Lit.int .i64 x).wf=true):I64 x:=by
 simp only[Lit.wf,Bool.and_eq_true,decide_eq_true_eq] at h;have e1:IntKind.i64.min=-9223372036854775808:=rfl;have e2:IntKind.i64.max=9223372036854775807:=rfl;rw[e1,e2] at h;exact⟨h.1,h.2⟩
theorem wfU {x:Int} (h:(Lit.int .u64 x).wf=true):P64 x:=by
 simp only[Lit.wf,Bool.and_eq_true,decide_eq_true_eq] at h;have e1:IntKind.u64.min=0:=rfl;have e2:IntKind.u64.max=18446744073709551615:=rfl;rw[e1,e2] at h;unfold P64
 omega
theorem qq7 {n:Nat} {cs:List Value} {x:DataW H × List MemPlace} (hlen:cs.length=2) (h:DataW.trod enc Tryz.prog w base spare held n 24 cs=some x):∃ a b,cs=[.int .i64 a,.int .i64 b]∧I64 a∧I64 b:=by
 obtain⟨xs,n,_,rfl,_,hxl,hg⟩:=DataW.trod_struct Tryz.underlying24 h
 match cs,hlen with
 | [u0,u1],_ =>
  match xs,hxl with
  | [y0,y1],_ =>
   have h0:DataW.trod enc Tryz.prog w base spare held n 3 (([u0,u1].drop 0).take (Tryz.prog.cellsOf 3))=some y0:=hg 0 _ rfl;have h1:DataW.trod enc Tryz.prog w base spare held n 3 (([u0,u1].drop 1).take (Tryz.prog.cellsOf 3))=some y1:=hg 1 _ rfl;rw[qh6] at h0 h1;obtain⟨a,e0,_,w0⟩:=DataW.trod_int Tryz.underlying3 (show DataW.trod enc Tryz.prog w base spare held n 3 [u0]=some y0 from h0);obtain⟨b,e1,_,w1⟩:=DataW.trod_int Tryz.underlying3 (show DataW.trod enc Tryz.prog w base spare held n 3 [u1]=some y1 from h1);simp only[List.cons.injEq,and_true] at e0 e1;subst e0 e1;exact⟨a,b,rfl,wfI w0,wfI w1⟩
theorem qs0 (fuel:Nat) (cs:List Value) (x:DataW H × List MemPlace) (hlen:cs.length=8) (h:DataW.trod enc Tryz.prog w base spare held fuel 26 cs=some x) (_:Wgt Tryz.prog 26 x.1):∃ y,RfR w y cs:=by
 obtain⟨xs,n,_,rfl,_,hxl,hg⟩:=DataW.trod_struct Tryz.underlying26 h
 match cs,hlen with
 | [u0,u1,u2,u3,u4,u5,u6,u7],_ =>
  match xs,hxl with
  | [y0,y1,y2,y3,y4,y5,y6],_ =>
   have h0:DataW.trod enc Tryz.prog w base spare held n 3 (([u0,u1,u2,u3,u4,u5,u6,u7].drop 0).take (Tryz.prog.cellsOf 3))=some y0:=hg 0 _ rfl;have h1:DataW.trod enc Tryz.prog w base spare held n 2 (([u0,u1,u2,u3,u4,u5,u6,u7].drop 1).take (Tryz.prog.cellsOf 2))=some y1:=hg 1 _ rfl;have h2:DataW.trod enc Tryz.prog w base spare held n 3 (([u0,u1,u2,u3,u4,u5,u6,u7].drop 2).take (Tryz.prog.cellsOf 3))=some y2:=hg 2 _ rfl;have h3:DataW.trod enc Tryz.prog w base spare held n 22 (([u0,u1,u2,u3,u4,u5,u6,u7].drop 3).take (Tryz.prog.cellsOf 22))=some y3:=hg 3 _ rfl;have h4:DataW.trod enc Tryz.prog w base spare held n 24 (([u0,u1,u2,u3,u4,u5,u6,u7].drop 4).take (Tryz.prog.cellsOf 24))=some y4:=hg 4 _ rfl;have h5:DataW.trod enc Tryz.prog w base spare held n 3 (([u0,u1,u2,u3,u4,u5,u6,u7].drop 6).take (Tryz.prog.cellsOf 3))=some y5:=hg 5 _ rfl;have h6:DataW.trod enc Tryz.prog w base spare held n 4 (([u0,u1,u2,u3,u4,u5,u6,u7].drop 7).take (Tryz.prog.cellsOf 4))=some y6:=hg 6 _ rfl;rw[qh6] at h0 h2 h5;rw[cellsI64] at h1;rw[qm5] at h3;rw[cellsID] at h4;rw[cellsB] at h6;obtain⟨a0,e0,_,w0⟩:=DataW.trod_int Tryz.underlying3 (show DataW.trod enc Tryz.prog w base spare held n 3 [u0]=some y0 from h0);obtain⟨a1,e1,_,w1⟩:=DataW.trod_int Tryz.underlying2 (show DataW.trod enc Tryz.prog w base spare held n 2 [u1]=some y1 from h1);obtain⟨a2,e2,_,w2⟩:=DataW.trod_int Tryz.underlying3 (show DataW.trod enc Tryz.prog w base spare held n 3 [u2]=some y2 from h2);obtain⟨a3,e3,_,w3⟩:=DataW.trod_int Tryz.underlying22 (show DataW.trod enc Tryz.prog w base spare held n 22 [u3]=some y3 from h3);obtain⟨a4,b4,e4,w4,v4⟩:=qq7 (by rfl) (show DataW.trod enc Tryz.prog w base spare held n 24 [u4,u5]=some y4 from h4);obtain⟨a5,e5,_,w5⟩:=DataW.trod_int Tryz.underlying3 (show DataW.trod enc Tryz.prog w base spare held n 3 [u6]=some y5 from h5);obtain⟨a6,e6,_⟩:=DataW.trod_bool Tryz.underlying4 (show DataW.trod enc Tryz.prog w base spare held n 4 [u7]=some y6 from h6);simp only[List.cons.injEq,and_true] at e0 e1 e2 e3 e4 e5 e6;obtain⟨e4,e4'⟩:=e4;subst e0 e1 e2 e3 e4 e4' e5 e6;exact⟨⟨a0,a1,a2,a3,a4,b4,a5,a6⟩,rfl,wfI w0,wfI w2,wfI w5,wfI w1,wfU w3,w4,v4⟩
end
end
section
open Go.ChangeShapes Go.WideShapes Go.ChangeAt Go.RowKit Go.Deep
theorem qh9 {H:Type} {w:World} {xs:List (DataW H × List MemPlace)} (h:w.noneFrozen (xs.flatMap (·.2))) {y:DataW H × List MemPlace} (hy:y∈xs):w.noneFrozen y.2:=fun b o hm=>h b o (List.mem_flatMap.2 ⟨y,hy,hm⟩)
/-- the old part of the world -/
def Od (w:World) (k:Nat):Prop:=k < w.heap.size
section
variable {H:Type} {enc:TypeId × Value→H} {w:World} {base:Nat} {spare:Nat→Bool} {held:Bool}
theorem qi9 {α:Type} (R:Rel α) (T:α→Prop) {t e:TypeId} {s:Nat} (ht:Tryz.prog.underlying t=some (.slice e)) (hs:Tryz.prog.cellsOf e=s) (hb1:1≤Tryz.prog.bytesOf e) (hs0:1≤s)
  (hR:∀ fuel cs x,cs.length=s→DataW.trod enc Tryz.prog w base spare held fuel e cs=some x→Wgt Tryz.prog e x.1→w.noneFrozen x.2→∃ y,R true (Od w) w y cs∧T y)
  {fuel:Nat} {v:Value} {x:DataW H × List MemPlace} (h:DataW.trod enc Tryz.prog w base spare held fuel t [v]=some x) (hw:Wgt Tryz.prog t x.1) (hz:w.noneFrozen x.2) :
  ∃ A c l,v=.slice A (List.length l) c∧LsR R e s true (Od w) w A c l∧∀ y∈l,T y:=by
 rcases open_slice ht h with ⟨h0,_⟩ | ⟨a,len,cap,m,n,D,Pl,hcs,hb,hl,hm,hmm,hx,hi⟩
 ·simp only[List.cons.injEq,and_true] at h0;subst h0;exact⟨none,0,[],rfl,by unfold LsR;rw[if_pos rfl];exact⟨Nat.le_refl _,by simp,.inl rfl⟩,fun y hy=>by cases hy⟩
 ·simp only[List.cons.injEq,and_true] at hcs;subst hcs;have hml:len≤m:=by rw[hmm];split <;> omega
  rw[hx] at hw hz
  have hlen:len≤140737488351232:=by
   have:=hw ((len+(m - len))*Tryz.prog.bytesOf e) (by simp[DataW.weights,ht]);simp only[reachBytes] at this;have h2:(len+(m - len))*1≤(len+(m - len))*Tryz.prog.bytesOf e:=Nat.mul_le_mul_left _ hb1
   omega
  obtain⟨l,hl1,hp⟩:=qu6 (α:=α × List Value) (p:=fun i y=>y.2.length=s∧R true (Od w) w y.1 y.2∧T y.1∧∀ j v,y.2[j]?=some v→w.cell? (a.add (i*s+j))=some v) len (fun i hil=>by
   obtain⟨cs',hc,htr⟩:=hi i (by omega);rw[hs] at hc;obtain⟨_,hcl,hat⟩:=World.cells?_some hc
   have hwi:Wgt Tryz.prog e (D i,Pl i).1:=fun n hn=>hw n (by
    simp only[DataW.weights,ht];refine List.mem_cons_of_mem _ (List.mem_append_left _ (weightsAll_mem (d:=D i) ?_ hn))
    exact List.mem_map.2 ⟨i,by simpa using hil,rfl⟩)
   have hzi:w.noneFrozen (D i,Pl i).2:=fun b o hm=>hz b o (List.mem_append_right _ (List.mem_flatMap.2 ⟨i,by simpa using (show i < m by omega),hm⟩));obtain⟨y,hy,hty⟩:=hR n cs' _ hcl htr hwi hzi;refine⟨(y,cs'),hcl,hy,hty,fun j v hv=>?_⟩
   have hj:j < s:=by
    have:=(List.getElem?_eq_some_iff.1 hv).1;rw[hcl] at this;exact this
   have g:=hat j hj;rw[Go.Deep.add_add] at g;rw[← hv]
   simpa using g)
  refine⟨some a,cap,l.map (·.1),by simp[hl1],?_,fun y hy=>by
   obtain⟨q,hq,rfl⟩:=List.mem_map.1 hy;obtain⟨i,hi2⟩:=List.mem_iff_getElem?.1 hq
   exact(hp i q hi2).2.2.1⟩
  unfold LsR;rw[if_pos rfl];refine⟨by simp[hl1];exact hl,by simp[hl1];exact hlen,?_⟩;rcases Nat.eq_zero_or_pos len with h0 | h0
  ·exact .inl (by simp[hl1];exact h0)
  ·focus
    obtain⟨y0,hy0⟩:∃ y,l[0]?=some y:=⟨_,List.getElem?_eq_getElem (by omega)⟩
    obtain⟨q1,q2,_,q3⟩:=hp 0 y0 hy0
    obtain⟨v0,hv0⟩:∃ v,y0.2[0]?=some v:=⟨_,List.getElem?_eq_getElem (by omega)⟩
    have q0:=q3 0 v0 hv0
    have ea:a=⟨a.block,a.off,none⟩:=by
     have:=spot_of_cell q0
     simpa [Addr.add] using this
    have eadd:∀ n,a.add n=⟨a.block,a.off+n,none⟩:=fun n=>by
     unfold Addr.add
     split
     ·rename_i h;subst h;exact ea
     ·rfl
    refine .inr ⟨a.block,a.off,by rw[← ea],?_,fun i x hx=>?_⟩
    ·have:=qa4 q0;rw[eadd] at this;exact this
    ·obtain⟨y,hy,rfl⟩:∃ y,l[i]?=some y∧y.1=x:=by simpa using hx
     obtain⟨r1,r2,_,r3⟩:=hp i y hy;refine⟨y.2,r1,r2,fun j v hv=>?_⟩;have:=r3 j v hv;rw[eadd] at this;rw[Nat.add_assoc];refine⟨this,hz a.block (a.off+(i*s+j)) (List.mem_append_left _ ?_)⟩;have hil:i < len:=by rw[← hl1];exact(List.getElem?_eq_some_iff.1 hy).1
     have hj:j < s:=by rw[← r1];exact(List.getElem?_eq_some_iff.1 hv).1
     unfold MemPlace.row;refine List.mem_map.2 ⟨i*s+j,?_,?_⟩
     ·rw[List.mem_range,hs];have h1:(i+1)*s≤m*s:=Nat.mul_le_mul_right s (by omega);rw[Nat.succ_mul] at h1
      omega
     ·first | rfl | rw[eadd]
theorem cM_str:Tryz.prog.cellsOf 9=1:=by kernel_rfl
theorem cM_refs:Tryz.prog.cellsOf 27=1:=by kernel_rfl
theorem cM_lts:Tryz.prog.cellsOf 30=1:=by kernel_rfl
theorem cM_was:Tryz.prog.cellsOf 31=1:=by kernel_rfl
theorem cM_ins:Tryz.prog.cellsOf 35=1:=by kernel_rfl
theorem cM_nds:Tryz.prog.cellsOf 38=1:=by kernel_rfl
theorem cM_lt:Tryz.prog.cellsOf 29=4:=by kernel_rfl
theorem cM_wa:Tryz.prog.cellsOf 65=12:=by kernel_rfl
theorem cM_in:Tryz.prog.cellsOf 99=3:=by kernel_rfl
theorem cM_nd:Tryz.prog.cellsOf 136=3:=by kernel_rfl
theorem cM_pc:Tryz.prog.cellsOf 33=8:=by kernel_rfl
theorem cM_an:Tryz.prog.cellsOf 37=8:=by kernel_rfl
theorem cM_cl:Tryz.prog.cellsOf 40=5:=by kernel_rfl
theorem cM_tr:Tryz.prog.cellsOf 34=2:=by kernel_rfl
theorem cM_ms:Tryz.prog.cellsOf 42=39:=by kernel_rfl
theorem open_trR {n:Nat} {cs:List Value} {x:DataW H × List MemPlace} (hlen:cs.length=2) (h:DataW.trod enc Tryz.prog w base spare held n 34 cs=some x):∃ a b,cs=[.int .i64 a,.int .i64 b]∧I64 a∧I64 b:=by
 obtain⟨xs,n,_,rfl,_,hxl,hg⟩:=DataW.trod_struct Tryz.underlying34 h
 match cs,hlen with
 | [u0,u1],_ =>
  match xs,hxl with
  | [y0,y1],_ =>
   have h0:DataW.trod enc Tryz.prog w base spare held n 3 (([u0,u1].drop 0).take (Tryz.prog.cellsOf 3))=some y0:=hg 0 _ rfl;have h1:DataW.trod enc Tryz.prog w base spare held n 3 (([u0,u1].drop 1).take (Tryz.prog.cellsOf 3))=some y1:=hg 1 _ rfl;rw[qh6] at h0 h1;obtain⟨a,e0,_,w0⟩:=DataW.trod_int Tryz.underlying3 (show DataW.trod enc Tryz.prog w base spare held n 3 [u0]=some y0 from h0);obtain⟨b,e1,_,w1⟩:=DataW.trod_int Tryz.underlying3 (show DataW.trod enc Tryz.prog w base spare held n 3 [u1]=some y1 from h1);simp only[List.cons.injEq,and_true] at e0 e1;subst e0 e1;exact⟨a,b,rfl,wfI w0,wfI w1⟩
theorem open_refM (fuel:Nat) (cs:List Value) (x:DataW H × List MemPlace) (hlen:cs.length=8) (h:DataW.trod enc Tryz.prog w base spare held fuel 26 cs=some x) (hw:Wgt Tryz.prog 26 x.1) (_:w.noneFrozen x.2):∃ y,qa6 rfC true (Od w) w y cs∧rfP y:=by
 obtain⟨y,h1,h2⟩:=qs0 fuel cs x hlen h hw;exact⟨y,h1,h2⟩
theorem open_ltM (fuel:Nat) (cs:List Value) (x:DataW H × List MemPlace) (hlen:cs.length=4) (h:DataW.trod enc Tryz.prog w base spare held fuel 29 cs=some x) (hw:Wgt Tryz.prog 29 x.1) (hz:w.noneFrozen x.2):∃ y,LtR true (Od w) w y cs∧ltT y:=by
 obtain⟨xs,n,_,rfl,_,hxl,hg⟩:=DataW.trod_struct Tryz.underlying29 h
 match cs,hlen with
 | [u0,u1,u2,u3],_ =>
  match xs,hxl with
  | [y0,y1,y2],_ =>
   have h0:DataW.trod enc Tryz.prog w base spare held n 24 (([u0,u1,u2,u3].drop 0).take (Tryz.prog.cellsOf 24))=some y0:=hg 0 _ rfl;rw[cellsID] at h0;replace h0:DataW.trod enc Tryz.prog w base spare held n 24 [u0,u1]=some y0:=h0;have h1:DataW.trod enc Tryz.prog w base spare held n 9 (([u0,u1,u2,u3].drop 2).take (Tryz.prog.cellsOf 9))=some y1:=hg 1 _ rfl;rw[cM_str] at h1;replace h1:DataW.trod enc Tryz.prog w base spare held n 9 [u2]=some y1:=h1;have h2:DataW.trod enc Tryz.prog w base spare held n 27 (([u0,u1,u2,u3].drop 3).take (Tryz.prog.cellsOf 27))=some y2:=hg 2 _ rfl;rw[cM_refs] at h2;replace h2:DataW.trod enc Tryz.prog w base spare held n 27 [u3]=some y2:=h2;obtain⟨a0,b0,e0,w0,v0⟩:=qq7 (by rfl) h0;simp only[List.cons.injEq,and_true] at e0;obtain⟨e0,f0⟩:=e0;subst e0 f0;obtain⟨a1,e1,_,_⟩:=DataW.trod_string Tryz.underlying9 h1;simp only[List.cons.injEq,and_true] at e1;subst e1;obtain⟨A2,c2,a2,e2,w2,v2⟩:=qi9 (qa6 rfC) rfP Tryz.underlying27 qr3 (by decide +kernel) (by decide) open_refM h2 (hw.part Tryz.underlying29 2 rfl rfl) (qh9 hz (by simp));subst e2;exact⟨⟨a0,b0,a1,a2⟩,⟨A2,c2,rfl,w2⟩,w0,v0,v2⟩
theorem open_waM (fuel:Nat) (cs:List Value) (x:DataW H × List MemPlace) (hlen:cs.length=12) (h:DataW.trod enc Tryz.prog w base spare held fuel 65 cs=some x) (hw:Wgt Tryz.prog 65 x.1) (hz:w.noneFrozen x.2):∃ y,qa6 waC true (Od w) w y cs∧waT y:=by
 obtain⟨xs,n,_,rfl,_,hxl,hg⟩:=DataW.trod_struct Tryz.underlying65 h
 match cs,hlen with
 | [u0,u1,u2,u3,u4,u5,u6,u7,u8,u9,u10,u11],_ =>
  match xs,hxl with
  | [y0,y1,y2,y3],_ =>
   have h0:DataW.trod enc Tryz.prog w base spare held n 24 (([u0,u1,u2,u3,u4,u5,u6,u7,u8,u9,u10,u11].drop 0).take (Tryz.prog.cellsOf 24))=some y0:=hg 0 _ rfl;rw[cellsID] at h0;replace h0:DataW.trod enc Tryz.prog w base spare held n 24 [u0,u1]=some y0:=h0;have h1:DataW.trod enc Tryz.prog w base spare held n 9 (([u0,u1,u2,u3,u4,u5,u6,u7,u8,u9,u10,u11].drop 2).take (Tryz.prog.cellsOf 9))=some y1:=hg 1 _ rfl;rw[cM_str] at h1;replace h1:DataW.trod enc Tryz.prog w base spare held n 9 [u2]=some y1:=h1;have h2:DataW.trod enc Tryz.prog w base spare held n 2 (([u0,u1,u2,u3,u4,u5,u6,u7,u8,u9,u10,u11].drop 3).take (Tryz.prog.cellsOf 2))=some y2:=hg 2 _ rfl;rw[cellsI64] at h2;replace h2:DataW.trod enc Tryz.prog w base spare held n 2 [u3]=some y2:=h2;have h3:DataW.trod enc Tryz.prog w base spare held n 26 (([u0,u1,u2,u3,u4,u5,u6,u7,u8,u9,u10,u11].drop 4).take (Tryz.prog.cellsOf 26))=some y3:=hg 3 _ rfl;rw[qr3] at h3;replace h3:DataW.trod enc Tryz.prog w base spare held n 26 [u4,u5,u6,u7,u8,u9,u10,u11]=some y3:=h3;obtain⟨a0,b0,e0,w0,v0⟩:=qq7 (by rfl) h0;simp only[List.cons.injEq,and_true] at e0;obtain⟨e0,f0⟩:=e0;subst e0 f0;obtain⟨a1,e1,_,_⟩:=DataW.trod_string Tryz.underlying9 h1;simp only[List.cons.injEq,and_true] at e1;subst e1;obtain⟨a2,e2,_,w2⟩:=DataW.trod_int Tryz.underlying2 h2;simp only[List.cons.injEq,and_true] at e2;subst e2;replace w2:=wfI w2;obtain⟨a3,e3,w3⟩:=qs0 n _ _ (by rfl) h3 (hw.part Tryz.underlying65 3 rfl rfl);simp only[rfC,List.cons.injEq,and_true] at e3;obtain⟨f3_0,f3_1,f3_2,f3_3,f3_4,f3_5,f3_6,f3_7⟩:=e3;subst f3_0 f3_1 f3_2 f3_3 f3_4 f3_5 f3_6 f3_7;exact⟨⟨a0,b0,a1,a2,a3⟩,rfl,w0,v0,w2,w3⟩
theorem open_inM (fuel:Nat) (cs:List Value) (x:DataW H × List MemPlace) (hlen:cs.length=3) (h:DataW.trod enc Tryz.prog w base spare held fuel 99 cs=some x) (hw:Wgt Tryz.prog 99 x.1) (hz:w.noneFrozen x.2):∃ y,qa6 inC true (Od w) w y cs∧inP y:=by
 obtain⟨xs,n,_,rfl,_,hxl,hg⟩:=DataW.trod_struct Tryz.underlying99 h
 match cs,hlen with
 | [u0,u1,u2],_ =>
  match xs,hxl with
  | [y0,y1,y2],_ =>
   have h0:DataW.trod enc Tryz.prog w base spare held n 3 (([u0,u1,u2].drop 0).take (Tryz.prog.cellsOf 3))=some y0:=hg 0 _ rfl;rw[qh6] at h0;replace h0:DataW.trod enc Tryz.prog w base spare held n 3 [u0]=some y0:=h0;have h1:DataW.trod enc Tryz.prog w base spare held n 22 (([u0,u1,u2].drop 1).take (Tryz.prog.cellsOf 22))=some y1:=hg 1 _ rfl;rw[qm5] at h1;replace h1:DataW.trod enc Tryz.prog w base spare held n 22 [u1]=some y1:=h1;have h2:DataW.trod enc Tryz.prog w base spare held n 3 (([u0,u1,u2].drop 2).take (Tryz.prog.cellsOf 3))=some y2:=hg 2 _ rfl;rw[qh6] at h2;replace h2:DataW.trod enc Tryz.prog w base spare held n 3 [u2]=some y2:=h2;obtain⟨a0,e0,_,w0⟩:=DataW.trod_int Tryz.underlying3 h0;simp only[List.cons.injEq,and_true] at e0;subst e0;replace w0:=wfI w0;obtain⟨a1,e1,_,w1⟩:=DataW.trod_int Tryz.underlying22 h1;simp only[List.cons.injEq,and_true] at e1;subst e1;replace w1:=wfU w1;obtain⟨a2,e2,_,w2⟩:=DataW.trod_int Tryz.underlying3 h2;simp only[List.cons.injEq,and_true] at e2;subst e2;replace w2:=wfI w2;exact⟨⟨a0,a1,a2⟩,rfl,w0,w2,w1⟩
theorem open_ndM (fuel:Nat) (cs:List Value) (x:DataW H × List MemPlace) (hlen:cs.length=3) (h:DataW.trod enc Tryz.prog w base spare held fuel 136 cs=some x) (hw:Wgt Tryz.prog 136 x.1) (hz:w.noneFrozen x.2):∃ y,qa6 ndC true (Od w) w y cs∧ndP y:=by
 obtain⟨xs,n,_,rfl,_,hxl,hg⟩:=DataW.trod_struct Tryz.underlying136 h
 match cs,hlen with
 | [u0,u1,u2],_ =>
  match xs,hxl with
  | [y0,y1,y2],_ =>
   have h0:DataW.trod enc Tryz.prog w base spare held n 3 (([u0,u1,u2].drop 0).take (Tryz.prog.cellsOf 3))=some y0:=hg 0 _ rfl;rw[qh6] at h0;replace h0:DataW.trod enc Tryz.prog w base spare held n 3 [u0]=some y0:=h0;have h1:DataW.trod enc Tryz.prog w base spare held n 22 (([u0,u1,u2].drop 1).take (Tryz.prog.cellsOf 22))=some y1:=hg 1 _ rfl;rw[qm5] at h1;replace h1:DataW.trod enc Tryz.prog w base spare held n 22 [u1]=some y1:=h1;have h2:DataW.trod enc Tryz.prog w base spare held n 3 (([u0,u1,u2].drop 2).take (Tryz.prog.cellsOf 3))=some y2:=hg 2 _ rfl;rw[qh6] at h2;replace h2:DataW.trod enc Tryz.prog w base spare held n 3 [u2]=some y2:=h2;obtain⟨a0,e0,_,w0⟩:=DataW.trod_int Tryz.underlying3 h0;simp only[List.cons.injEq,and_true] at e0;subst e0;replace w0:=wfI w0;obtain⟨a1,e1,_,w1⟩:=DataW.trod_int Tryz.underlying22 h1;simp only[List.cons.injEq,and_true] at e1;subst e1;replace w1:=wfU w1;obtain⟨a2,e2,_,w2⟩:=DataW.trod_int Tryz.underlying3 h2;simp only[List.cons.injEq,and_true] at e2;subst e2;replace w2:=wfI w2;exact⟨⟨a0,a1,a2⟩,rfl,w0,w2,w1⟩
def PcRR (w:World) (x:Pc) (r:List Value):Prop:=∃ A2 c2 A3 c3 A4 c4,r=[uv x.number,iv x.idm,iv x.ids,iv x.kind,iv x.cls,.slice A2 x.fields.length c2,.slice A3 x.mail.length c3,.slice A4 x.watches.length c4]∧LsR (qa6 rfC) 26 8 true (Od w) w A2 c2 x.fields∧LsR LtR 29 4 true (Od w) w A3 c3 x.mail∧LsR (qa6 waC) 65 12 true (Od w) w A4 c4 x.watches
def AnRR (w:World) (x:An) (r:List Value):Prop:=∃ A5 c5,r=[iv x.machine,iv x.owner,uv x.number,iv x.epoch,.bool x.known,.bool x.rooted,iv x.last,.slice A5 x.inset.length c5]∧LsR (qa6 inC) 99 3 true (Od w) w A5 c5 x.inset
def ClRR (w:World) (x:Cl) (r:List Value):Prop:=∃ A6 c6 A7 c7 A8 c8,r=[iv x.machine,iv x.epoch,.slice A6 x.stubs.length c6,.slice A7 x.scions.length c7,.slice A8 x.checks.length c8]∧LsR (qa6 ndC) 136 3 true (Od w) w A6 c6 x.stubs∧LsR (qa6 ndC) 136 3 true (Od w) w A7 c7 x.scions∧LsR (qa6 ndC) 136 3 true (Od w) w A8 c8 x.checks
theorem open_pcM (fuel:Nat) (cs:List Value) (x:DataW H × List MemPlace) (hlen:cs.length=8) (h:DataW.trod enc Tryz.prog w base spare held fuel 33 cs=some x) (hw:Wgt Tryz.prog 33 x.1) (hz:w.noneFrozen x.2):∃ y,PcRR w y cs∧pcT y:=by
 obtain⟨xs,n,_,rfl,_,hxl,hg⟩:=DataW.trod_struct Tryz.underlying33 h
 match cs,hlen with
 | [u0,u1,u2,u3,u4,u5,u6,u7],_ =>
  match xs,hxl with
  | [y0,y1,y2,y3,y4,y5,y6],_ =>
   have h0:DataW.trod enc Tryz.prog w base spare held n 22 (([u0,u1,u2,u3,u4,u5,u6,u7].drop 0).take (Tryz.prog.cellsOf 22))=some y0:=hg 0 _ rfl;rw[qm5] at h0;replace h0:DataW.trod enc Tryz.prog w base spare held n 22 [u0]=some y0:=h0;have h1:DataW.trod enc Tryz.prog w base spare held n 24 (([u0,u1,u2,u3,u4,u5,u6,u7].drop 1).take (Tryz.prog.cellsOf 24))=some y1:=hg 1 _ rfl;rw[cellsID] at h1;replace h1:DataW.trod enc Tryz.prog w base spare held n 24 [u1,u2]=some y1:=h1;have h2:DataW.trod enc Tryz.prog w base spare held n 3 (([u0,u1,u2,u3,u4,u5,u6,u7].drop 3).take (Tryz.prog.cellsOf 3))=some y2:=hg 2 _ rfl;rw[qh6] at h2;replace h2:DataW.trod enc Tryz.prog w base spare held n 3 [u3]=some y2:=h2;have h3:DataW.trod enc Tryz.prog w base spare held n 3 (([u0,u1,u2,u3,u4,u5,u6,u7].drop 4).take (Tryz.prog.cellsOf 3))=some y3:=hg 3 _ rfl;rw[qh6] at h3;replace h3:DataW.trod enc Tryz.prog w base spare held n 3 [u4]=some y3:=h3;have h4:DataW.trod enc Tryz.prog w base spare held n 27 (([u0,u1,u2,u3,u4,u5,u6,u7].drop 5).take (Tryz.prog.cellsOf 27))=some y4:=hg 4 _ rfl;rw[cM_refs] at h4;replace h4:DataW.trod enc Tryz.prog w base spare held n 27 [u5]=some y4:=h4;have h5:DataW.trod enc Tryz.prog w base spare held n 30 (([u0,u1,u2,u3,u4,u5,u6,u7].drop 6).take (Tryz.prog.cellsOf 30))=some y5:=hg 5 _ rfl;rw[cM_lts] at h5;replace h5:DataW.trod enc Tryz.prog w base spare held n 30 [u6]=some y5:=h5;have h6:DataW.trod enc Tryz.prog w base spare held n 31 (([u0,u1,u2,u3,u4,u5,u6,u7].drop 7).take (Tryz.prog.cellsOf 31))=some y6:=hg 6 _ rfl;rw[cM_was] at h6;replace h6:DataW.trod enc Tryz.prog w base spare held n 31 [u7]=some y6:=h6;obtain⟨a0,e0,_,w0⟩:=DataW.trod_int Tryz.underlying22 h0;simp only[List.cons.injEq,and_true] at e0;subst e0;replace w0:=wfU w0;obtain⟨a1,b1,e1,w1,v1⟩:=qq7 (by rfl) h1;simp only[List.cons.injEq,and_true] at e1;obtain⟨e1,f1⟩:=e1;subst e1 f1;obtain⟨a2,e2,_,w2⟩:=DataW.trod_int Tryz.underlying3 h2;simp only[List.cons.injEq,and_true] at e2;subst e2;replace w2:=wfI w2;obtain⟨a3,e3,_,w3⟩:=DataW.trod_int Tryz.underlying3 h3;simp only[List.cons.injEq,and_true] at e3;subst e3;replace w3:=wfI w3;obtain⟨A4,c4,a4,e4,w4,v4⟩:=qi9 (qa6 rfC) rfP Tryz.underlying27 qr3 (by decide +kernel) (by decide) open_refM h4 (hw.part Tryz.underlying33 4 rfl rfl) (qh9 hz (by simp));subst e4;obtain⟨A5,c5,a5,e5,w5,v5⟩:=qi9 (LtR) ltT Tryz.underlying30 cM_lt (by decide +kernel) (by decide) open_ltM h5 (hw.part Tryz.underlying33 5 rfl rfl) (qh9 hz (by simp));subst e5;obtain⟨A6,c6,a6,e6,w6,v6⟩:=qi9 (qa6 waC) waT Tryz.underlying31 cM_wa (by decide +kernel) (by decide) open_waM h6 (hw.part Tryz.underlying33 6 rfl rfl) (qh9 hz (by simp));subst e6;exact⟨⟨a0,a1,b1,a2,a3,a4,a5,a6⟩,⟨A4,c4,A5,c5,A6,c6,rfl,w4,w5,w6⟩,w0,w1,v1,w2,w3,v4,v5,v6⟩
theorem open_anM (fuel:Nat) (cs:List Value) (x:DataW H × List MemPlace) (hlen:cs.length=8) (h:DataW.trod enc Tryz.prog w base spare held fuel 37 cs=some x) (hw:Wgt Tryz.prog 37 x.1) (hz:w.noneFrozen x.2):∃ y,AnRR w y cs∧anT y:=by
 obtain⟨xs,n,_,rfl,_,hxl,hg⟩:=DataW.trod_struct Tryz.underlying37 h
 match cs,hlen with
 | [u0,u1,u2,u3,u4,u5,u6,u7],_ =>
  match xs,hxl with
  | [y0,y1,y2,y3,y4,y5,y6,y7],_ =>
   have h0:DataW.trod enc Tryz.prog w base spare held n 3 (([u0,u1,u2,u3,u4,u5,u6,u7].drop 0).take (Tryz.prog.cellsOf 3))=some y0:=hg 0 _ rfl;rw[qh6] at h0;replace h0:DataW.trod enc Tryz.prog w base spare held n 3 [u0]=some y0:=h0;have h1:DataW.trod enc Tryz.prog w base spare held n 3 (([u0,u1,u2,u3,u4,u5,u6,u7].drop 1).take (Tryz.prog.cellsOf 3))=some y1:=hg 1 _ rfl;rw[qh6] at h1;replace h1:DataW.trod enc Tryz.prog w base spare held n 3 [u1]=some y1:=h1;have h2:DataW.trod enc Tryz.prog w base spare held n 22 (([u0,u1,u2,u3,u4,u5,u6,u7].drop 2).take (Tryz.prog.cellsOf 22))=some y2:=hg 2 _ rfl;rw[qm5] at h2;replace h2:DataW.trod enc Tryz.prog w base spare held n 22 [u2]=some y2:=h2;have h3:DataW.trod enc Tryz.prog w base spare held n 3 (([u0,u1,u2,u3,u4,u5,u6,u7].drop 3).take (Tryz.prog.cellsOf 3))=some y3:=hg 3 _ rfl;rw[qh6] at h3;replace h3:DataW.trod enc Tryz.prog w base spare held n 3 [u3]=some y3:=h3;have h4:DataW.trod enc Tryz.prog w base spare held n 4 (([u0,u1,u2,u3,u4,u5,u6,u7].drop 4).take (Tryz.prog.cellsOf 4))=some y4:=hg 4 _ rfl;rw[cellsB] at h4;replace h4:DataW.trod enc Tryz.prog w base spare held n 4 [u4]=some y4:=h4;have h5:DataW.trod enc Tryz.prog w base spare held n 4 (([u0,u1,u2,u3,u4,u5,u6,u7].drop 5).take (Tryz.prog.cellsOf 4))=some y5:=hg 5 _ rfl;rw[cellsB] at h5;replace h5:DataW.trod enc Tryz.prog w base spare held n 4 [u5]=some y5:=h5;have h6:DataW.trod enc Tryz.prog w base spare held n 3 (([u0,u1,u2,u3,u4,u5,u6,u7].drop 6).take (Tryz.prog.cellsOf 3))=some y6:=hg 6 _ rfl;rw[qh6] at h6;replace h6:DataW.trod enc Tryz.prog w base spare held n 3 [u6]=some y6:=h6;have h7:DataW.trod enc Tryz.prog w base spare held n 35 (([u0,u1,u2,u3,u4,u5,u6,u7].drop 7).take (Tryz.prog.cellsOf 35))=some y7:=hg 7 _ rfl;rw[cM_ins] at h7;replace h7:DataW.trod enc Tryz.prog w base spare held n 35 [u7]=some y7:=h7;obtain⟨a0,e0,_,w0⟩:=DataW.trod_int Tryz.underlying3 h0;simp only[List.cons.injEq,and_true] at e0;subst e0;replace w0:=wfI w0;obtain⟨a1,e1,_,w1⟩:=DataW.trod_int Tryz.underlying3 h1;simp only[List.cons.injEq,and_true] at e1;subst e1;replace w1:=wfI w1;obtain⟨a2,e2,_,w2⟩:=DataW.trod_int Tryz.underlying22 h2;simp only[List.cons.injEq,and_true] at e2;subst e2;replace w2:=wfU w2;obtain⟨a3,e3,_,w3⟩:=DataW.trod_int Tryz.underlying3 h3;simp only[List.cons.injEq,and_true] at e3;subst e3;replace w3:=wfI w3;obtain⟨a4,e4,_⟩:=DataW.trod_bool Tryz.underlying4 h4;simp only[List.cons.injEq,and_true] at e4;subst e4;obtain⟨a5,e5,_⟩:=DataW.trod_bool Tryz.underlying4 h5;simp only[List.cons.injEq,and_true] at e5;subst e5;obtain⟨a6,e6,_,w6⟩:=DataW.trod_int Tryz.underlying3 h6;simp only[List.cons.injEq,and_true] at e6;subst e6;replace w6:=wfI w6;obtain⟨A7,c7,a7,e7,w7,v7⟩:=qi9 (qa6 inC) inP Tryz.underlying35 cM_in (by decide +kernel) (by decide) open_inM h7 (hw.part Tryz.underlying37 7 rfl rfl) (qh9 hz (by simp));subst e7;exact⟨⟨a0,a1,a2,a3,a4,a5,a6,a7⟩,⟨A7,c7,rfl,w7⟩,w0,w1,w3,w6,w2,v7⟩
theorem open_clM (fuel:Nat) (cs:List Value) (x:DataW H × List MemPlace) (hlen:cs.length=5) (h:DataW.trod enc Tryz.prog w base spare held fuel 40 cs=some x) (hw:Wgt Tryz.prog 40 x.1) (hz:w.noneFrozen x.2):∃ y,ClRR w y cs∧clT y:=by
 obtain⟨xs,n,_,rfl,_,hxl,hg⟩:=DataW.trod_struct Tryz.underlying40 h
 match cs,hlen with
 | [u0,u1,u2,u3,u4],_ =>
  match xs,hxl with
  | [y0,y1,y2,y3,y4],_ =>
   have h0:DataW.trod enc Tryz.prog w base spare held n 3 (([u0,u1,u2,u3,u4].drop 0).take (Tryz.prog.cellsOf 3))=some y0:=hg 0 _ rfl;rw[qh6] at h0;replace h0:DataW.trod enc Tryz.prog w base spare held n 3 [u0]=some y0:=h0;have h1:DataW.trod enc Tryz.prog w base spare held n 3 (([u0,u1,u2,u3,u4].drop 1).take (Tryz.prog.cellsOf 3))=some y1:=hg 1 _ rfl;rw[qh6] at h1;replace h1:DataW.trod enc Tryz.prog w base spare held n 3 [u1]=some y1:=h1;have h2:DataW.trod enc Tryz.prog w base spare held n 38 (([u0,u1,u2,u3,u4].drop 2).take (Tryz.prog.cellsOf 38))=some y2:=hg 2 _ rfl;rw[cM_nds] at h2;replace h2:DataW.trod enc Tryz.prog w base spare held n 38 [u2]=some y2:=h2;have h3:DataW.trod enc Tryz.prog w base spare held n 38 (([u0,u1,u2,u3,u4].drop 3).take (Tryz.prog.cellsOf 38))=some y3:=hg 3 _ rfl;rw[cM_nds] at h3;replace h3:DataW.trod enc Tryz.prog w base spare held n 38 [u3]=some y3:=h3;have h4:DataW.trod enc Tryz.prog w base spare held n 38 (([u0,u1,u2,u3,u4].drop 4).take (Tryz.prog.cellsOf 38))=some y4:=hg 4 _ rfl;rw[cM_nds] at h4;replace h4:DataW.trod enc Tryz.prog w base spare held n 38 [u4]=some y4:=h4;obtain⟨a0,e0,_,w0⟩:=DataW.trod_int Tryz.underlying3 h0;simp only[List.cons.injEq,and_true] at e0;subst e0;replace w0:=wfI w0;obtain⟨a1,e1,_,w1⟩:=DataW.trod_int Tryz.underlying3 h1;simp only[List.cons.injEq,and_true] at e1;subst e1;replace w1:=wfI w1;obtain⟨A2,c2,a2,e2,w2,v2⟩:=qi9 (qa6 ndC) ndP Tryz.underlying38 cM_nd (by decide +kernel) (by decide) open_ndM h2 (hw.part Tryz.underlying40 2 rfl rfl) (qh9 hz (by simp));subst e2;obtain⟨A3,c3,a3,e3,w3,v3⟩:=qi9 (qa6 ndC) ndP Tryz.underlying38 cM_nd (by decide +kernel) (by decide) open_ndM h3 (hw.part Tryz.underlying40 3 rfl rfl) (qh9 hz (by simp));subst e3;obtain⟨A4,c4,a4,e4,w4,v4⟩:=qi9 (qa6 ndC) ndP Tryz.underlying38 cM_nd (by decide +kernel) (by decide) open_ndM h4 (hw.part Tryz.underlying40 4 rfl rfl) (qh9 hz (by simp));subst e4;exact⟨⟨a0,a1,a2,a3,a4⟩,⟨A2,c2,A3,c3,A4,c4,rfl,w2,w3,w4⟩,w0,w1,v2,v3,v4⟩
theorem open_msM (fuel:Nat) (cs:List Value) (x:DataW H × List MemPlace) (hlen:cs.length=39) (h:DataW.trod enc Tryz.prog w base spare held fuel 42 cs=some x) (hw:Wgt Tryz.prog 42 x.1) (hz:w.noneFrozen x.2):∃ y,MsR true (Od w) w y cs∧msT y:=by
 obtain⟨xs,n,_,rfl,_,hxl,hg⟩:=DataW.trod_struct Tryz.underlying42 h
 match cs,hlen with
 | (u0::u1::u2::u3::u4::u5::u6::u7::u8::u9::u10::u11::u12::u13::u14::u15::u16::u17::u18::u19::u20::u21::u22::u23::u24::u25::u26::u27::u28::u29::u30::u31::u32::u33::u34::u35::u36::u37::u38::[]),_ =>
  match xs,hxl with
  | [y0,y1,y2,y3,y4,y5,y6,y7,y8,y9],_ =>
   have h0:DataW.trod enc Tryz.prog w base spare held n 3 (((u0::u1::u2::u3::u4::u5::u6::u7::u8::u9::u10::u11::u12::u13::u14::u15::u16::u17::u18::u19::u20::u21::u22::u23::u24::u25::u26::u27::u28::u29::u30::u31::u32::u33::u34::u35::u36::u37::u38::[]).drop 0).take (Tryz.prog.cellsOf 3))=some y0:=hg 0 _ rfl;rw[qh6] at h0;replace h0:DataW.trod enc Tryz.prog w base spare held n 3 [u0]=some y0:=h0;have h1:DataW.trod enc Tryz.prog w base spare held n 22 (((u0::u1::u2::u3::u4::u5::u6::u7::u8::u9::u10::u11::u12::u13::u14::u15::u16::u17::u18::u19::u20::u21::u22::u23::u24::u25::u26::u27::u28::u29::u30::u31::u32::u33::u34::u35::u36::u37::u38::[]).drop 1).take (Tryz.prog.cellsOf 22))=some y1:=hg 1 _ rfl;rw[qm5] at h1;replace h1:DataW.trod enc Tryz.prog w base spare held n 22 [u1]=some y1:=h1;have h2:DataW.trod enc Tryz.prog w base spare held n 3 (((u0::u1::u2::u3::u4::u5::u6::u7::u8::u9::u10::u11::u12::u13::u14::u15::u16::u17::u18::u19::u20::u21::u22::u23::u24::u25::u26::u27::u28::u29::u30::u31::u32::u33::u34::u35::u36::u37::u38::[]).drop 2).take (Tryz.prog.cellsOf 3))=some y2:=hg 2 _ rfl;rw[qh6] at h2;replace h2:DataW.trod enc Tryz.prog w base spare held n 3 [u2]=some y2:=h2;have h3:DataW.trod enc Tryz.prog w base spare held n 9 (((u0::u1::u2::u3::u4::u5::u6::u7::u8::u9::u10::u11::u12::u13::u14::u15::u16::u17::u18::u19::u20::u21::u22::u23::u24::u25::u26::u27::u28::u29::u30::u31::u32::u33::u34::u35::u36::u37::u38::[]).drop 3).take (Tryz.prog.cellsOf 9))=some y3:=hg 3 _ rfl;rw[cM_str] at h3;replace h3:DataW.trod enc Tryz.prog w base spare held n 9 [u3]=some y3:=h3;have h4:DataW.trod enc Tryz.prog w base spare held n 26 (((u0::u1::u2::u3::u4::u5::u6::u7::u8::u9::u10::u11::u12::u13::u14::u15::u16::u17::u18::u19::u20::u21::u22::u23::u24::u25::u26::u27::u28::u29::u30::u31::u32::u33::u34::u35::u36::u37::u38::[]).drop 4).take (Tryz.prog.cellsOf 26))=some y4:=hg 4 _ rfl;rw[qr3] at h4;replace h4:DataW.trod enc Tryz.prog w base spare held n 26 [u4,u5,u6,u7,u8,u9,u10,u11]=some y4:=h4;have h5:DataW.trod enc Tryz.prog w base spare held n 29 (((u0::u1::u2::u3::u4::u5::u6::u7::u8::u9::u10::u11::u12::u13::u14::u15::u16::u17::u18::u19::u20::u21::u22::u23::u24::u25::u26::u27::u28::u29::u30::u31::u32::u33::u34::u35::u36::u37::u38::[]).drop 12).take (Tryz.prog.cellsOf 29))=some y5:=hg 5 _ rfl;rw[cM_lt] at h5;replace h5:DataW.trod enc Tryz.prog w base spare held n 29 [u12,u13,u14,u15]=some y5:=h5;have h6:DataW.trod enc Tryz.prog w base spare held n 33 (((u0::u1::u2::u3::u4::u5::u6::u7::u8::u9::u10::u11::u12::u13::u14::u15::u16::u17::u18::u19::u20::u21::u22::u23::u24::u25::u26::u27::u28::u29::u30::u31::u32::u33::u34::u35::u36::u37::u38::[]).drop 16).take (Tryz.prog.cellsOf 33))=some y6:=hg 6 _ rfl;rw[cM_pc] at h6;replace h6:DataW.trod enc Tryz.prog w base spare held n 33 [u16,u17,u18,u19,u20,u21,u22,u23]=some y6:=h6;have h7:DataW.trod enc Tryz.prog w base spare held n 34 (((u0::u1::u2::u3::u4::u5::u6::u7::u8::u9::u10::u11::u12::u13::u14::u15::u16::u17::u18::u19::u20::u21::u22::u23::u24::u25::u26::u27::u28::u29::u30::u31::u32::u33::u34::u35::u36::u37::u38::[]).drop 24).take (Tryz.prog.cellsOf 34))=some y7:=hg 7 _ rfl;rw[cM_tr] at h7;replace h7:DataW.trod enc Tryz.prog w base spare held n 34 [u24,u25]=some y7:=h7;have h8:DataW.trod enc Tryz.prog w base spare held n 37 (((u0::u1::u2::u3::u4::u5::u6::u7::u8::u9::u10::u11::u12::u13::u14::u15::u16::u17::u18::u19::u20::u21::u22::u23::u24::u25::u26::u27::u28::u29::u30::u31::u32::u33::u34::u35::u36::u37::u38::[]).drop 26).take (Tryz.prog.cellsOf 37))=some y8:=hg 8 _ rfl;rw[cM_an] at h8;replace h8:DataW.trod enc Tryz.prog w base spare held n 37 [u26,u27,u28,u29,u30,u31,u32,u33]=some y8:=h8;have h9:DataW.trod enc Tryz.prog w base spare held n 40 (((u0::u1::u2::u3::u4::u5::u6::u7::u8::u9::u10::u11::u12::u13::u14::u15::u16::u17::u18::u19::u20::u21::u22::u23::u24::u25::u26::u27::u28::u29::u30::u31::u32::u33::u34::u35::u36::u37::u38::[]).drop 34).take (Tryz.prog.cellsOf 40))=some y9:=hg 9 _ rfl;rw[cM_cl] at h9;replace h9:DataW.trod enc Tryz.prog w base spare held n 40 [u34,u35,u36,u37,u38]=some y9:=h9;obtain⟨a0,e0,_,w0⟩:=DataW.trod_int Tryz.underlying3 h0;simp only[List.cons.injEq,and_true] at e0;subst e0;replace w0:=wfI w0;obtain⟨a1,e1,_,w1⟩:=DataW.trod_int Tryz.underlying22 h1;simp only[List.cons.injEq,and_true] at e1;subst e1;replace w1:=wfU w1;obtain⟨a2,e2,_,w2⟩:=DataW.trod_int Tryz.underlying3 h2;simp only[List.cons.injEq,and_true] at e2;subst e2;replace w2:=wfI w2;obtain⟨a3,e3,_,_⟩:=DataW.trod_string Tryz.underlying9 h3;simp only[List.cons.injEq,and_true] at e3;subst e3;obtain⟨a4,e4,w4⟩:=qs0 n _ _ (by rfl) h4 (hw.part Tryz.underlying42 4 rfl rfl);simp only[rfC,List.cons.injEq,and_true] at e4;obtain⟨f4_0,f4_1,f4_2,f4_3,f4_4,f4_5,f4_6,f4_7⟩:=e4;subst f4_0 f4_1 f4_2 f4_3 f4_4 f4_5 f4_6 f4_7;obtain⟨a5,w5,v5⟩:=open_ltM n _ _ (by rfl) h5 (hw.part Tryz.underlying42 5 rfl rfl) (qh9 hz (by simp));obtain⟨a6,w6,v6⟩:=open_pcM n _ _ (by rfl) h6 (hw.part Tryz.underlying42 6 rfl rfl) (qh9 hz (by simp));obtain⟨a7,b7,e7,w7,v7⟩:=open_trR (by rfl) h7;simp only[List.cons.injEq,and_true] at e7;obtain⟨e7,f7⟩:=e7;subst e7 f7;obtain⟨a8,w8,v8⟩:=open_anM n _ _ (by rfl) h8 (hw.part Tryz.underlying42 8 rfl rfl) (qh9 hz (by simp));obtain⟨a9,w9,v9⟩:=open_clM n _ _ (by rfl) h9 (hw.part Tryz.underlying42 9 rfl rfl) (qh9 hz (by simp));obtain⟨Al,cl,el,wl⟩:=w5;obtain⟨A2,c2,A3,c3,A4,c4,ep,wp2,wp3,wp4⟩:=w6;obtain⟨A5,c5,ea,wa⟩:=w8;obtain⟨A6,c6,A7,c7,A8,c8,ec,wc6,wc7,wc8⟩:=w9;simp only[List.cons.injEq,and_true] at el ep ea ec;obtain⟨l0,l1,l2,l3⟩:=el;obtain⟨p0,p1,p2,p3,p4,p5,p6,p7⟩:=ep;obtain⟨q0,q1,q2,q3,q4,q5,q6,q7⟩:=ea;obtain⟨r0,r1,r2,r3,r4⟩:=ec;subst l0 l1 l2 l3 p0 p1 p2 p3 p4 p5 p6 p7 q0 q1 q2 q3 q4 q5 q6 q7 r0 r1 r2 r3 r4;exact⟨⟨a0,a1,a2,a3,a4,a5,a6,a7,b7,a8,a9⟩,⟨Al,cl,A2,c2,A3,c3,A4,c4,A5,c5,A6,c6,A7,c7,A8,c8,rfl,wl,wp2,wp3,wp4,wa,wc6,wc7,wc8⟩,w0,w2,w7,v7,w1,w4,v5,v6,v8,v9⟩
theorem open_msV {r:_root_.Go.Reach} {b0:Nat} {v:Value} {d:DataW H} {p:List MemPlace} (hv:Value.okWide Tryz.prog w r b0 42 v) (h:DataW.Trod enc Tryz.prog w base spare held 42 v d p) (hw:Wgt Tryz.prog 42 d) (hz:w.noneFrozen p) :
  ∃ x r,v=.agg (List.toArray r)∧MsI w x r∧msT x:=by
 obtain⟨cs,rfl,hsz⟩:=okWide_struct Tryz.underlying42 hv;rw[cM_ms] at hsz;obtain⟨fuel,hf⟩:=h;obtain⟨m,hm,hp⟩:=open_msM fuel cs.toList _ (by simpa using hsz) hf hw hz;exact⟨m,cs.toList,by simp,hm,hp⟩
end
end
end Go.Proofs.YtmbnlccafcfbeaaGreatDoor
