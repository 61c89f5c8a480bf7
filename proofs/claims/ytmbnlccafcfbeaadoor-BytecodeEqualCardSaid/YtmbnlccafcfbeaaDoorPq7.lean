/- Parts of the proof: Dec1, Dec2, Dec3, Open, OpenC, RSame, EqIns. -/
import Derived.Deep.Fields
import Derived.Deep.Slices
import Derived.Lib.SliceRun
import Derived.OpenShut
import Derived.ProofKit
import Derived.SizedLaws
import Derived.Test.YtmbnlccafcfbeaaDoorChecked
import Derived.Test.YtmbnlccafcfbeaaDoorPqA
import Derived.Test.YtmbnlccafcfbeaaDoorPq4
import Derived.Test.YtmbnlccafcfbeaaDoorPq5
import Derived.Test.YtmbnlccafcfbeaaDoorPq6
set_option linter.unusedVariables false
set_option linter.unusedSimpArgs false
set_option linter.unusedSectionVars false
set_option maxRecDepth 100000
namespace Go.Proofs.YtmbnlccafcfbeaaDoor
section
open Go.RowKit
attribute [local go_sem] Oper.semAt_some
section
variable {S:Nat→Prop} {w w1 w2 w':World} {B:Nat}
theorem own_kp {base:Nat} {e:TypeId} {size n:Nat} {v:Value} {xs:List Value} (h:w.ownsRow base e size v n xs) (hk:Kp S w w') (hn:∀ k,v.ownBlock=some k→¬ S k):w'.ownsRow base e size v n xs:=own_local h fun k he=>hk.block k (h.lt k he).2 (hn k he)
theorem own_below {base:Nat} {e:TypeId} {size n:Nat} {v:Value} {xs:List Value} (h:w.ownsRow base e size v n xs) (hb:Below w.heap.size w w'):w'.ownsRow base e size v n xs:=own_local h fun k he=>hb.block k (h.lt k he).2
end
section
variable {w:World} {g bb:Nat} {r:Rd} {most:Int}
end
end
section
section
variable {α β:Type} {ea:α→List Int} {eb:β→List Int} {da:Rd→α × Rd} {db:Rd→β × Rd} {P:α→Prop} {Q:β→Prop}
/-- one behind the other -/
def Rd.two (da:Rd→α × Rd) (db:Rd→β × Rd) (r:Rd):(α × β) × Rd:=(((da r).1,(db (da r).2).1),(db (da r).2).2)
theorem codT (ha:Cod ea da P) (hb:Cod eb db Q):Cod (fun x:α × β=>ea x.1++eb x.2) (Rd.two da db) fun x=>P x.1∧Q x.2:=by
 refine⟨fun x s h=>?_,fun r h=>ha.st r (hb.st _ h),fun r h8 h=>?_⟩
 ·unfold Rd.two
  rw[List.append_assoc,ha.fw _ _ h.1]
  dsimp only
  rw[hb.fw _ _ h.2]
 ·have h1:=hb.st _ h
  obtain⟨a1,a2,a3⟩:=ha.bw r h8 h1
  obtain⟨b1,b2,b3⟩:=hb.bw _ (ha.b8 h8 h1) h
  exact⟨a1,by rw[a2,b2];simp only[Rd.two,List.append_assoc],a3,b3⟩
end
def decIns (r:Rd):Ins × Rd:=((r.i.1,r.i.2.i.1,r.i.2.i.2.i.1),r.i.2.i.2.i.2)
def insP (x:Ins):Prop:=I64 x.1∧I64 x.2.1∧I64 x.2.2
theorem codIns:Cod encIns decIns insP:=by
 have h:=codT codI (codT codI codI)
 refine⟨fun x s hx=>?_,fun r hr=>h.st r hr,fun r h8 hr=>?_⟩
 ·have e:=h.fw x s hx
  unfold encIns
  rw[List.append_assoc (encI x.1)]
  exact e
 ·obtain⟨a1,a2,a3⟩:=h.bw r h8 hr
  refine⟨a1,?_,a3⟩
  unfold encIns
  rw[List.append_assoc (encI _)]
  exact a2
def mthP (m:Mth):Prop:=(m.nm.size:Int)≤4096∧I64 m.p∧I64 m.l∧((m.code.length:Int)≤4000∧∀ x∈m.code,insP x)∧((m.names.length:Int)≤1024∧∀ s∈m.names,(s.size:Int)≤4096)
def clsP (k:Cls):Prop:=(k.nm.size:Int)≤4096∧True∧((k.fields.length:Int)≤30∧∀ s∈k.fields,(s.size:Int)≤4096)∧((k.ms.length:Int)≤30∧∀ m∈k.ms,mthP m)
def codeP (cs:List Cls):Prop:=(cs.length:Int)≤60∧∀ k∈cs,clsP k
end
section
open Go.RowKit
section
variable {S:Nat→Prop} {w w':World} {base n size:Nat} {e:TypeId} {v:Value} {xs:List Value}
theorem own_kpT (h:w.ownsRow base e size v n xs) (hk:Kp S w w') (hS:∀ k,S k→∃ t cs,Bk w k t cs∧t≠e):w'.ownsRow base e size v n xs :=
 own_kp h hk fun k he hs=>let ⟨t,cs,hb,ht⟩:=hS k hs;row_ne h hb ht he
end
theorem RdX.bkx {w:World} {g bb:Nat} {r:Rd} (h:RdX w g bb r):∃ cs,Bk w g 79 cs:=let ⟨A,c,h⟩:=h;⟨_,h.bk⟩
theorem Sl.one {w:World} (t:TypeId) (cs:Array Value) (hc:0 < cs.size):Sl (w.alloc (.cells cs t)) cs.size (some ⟨w.heap.size,0,none⟩) 1 cs.toList :=
 ⟨by rw[Nat.one_mul];simp,.inr ⟨_,0,rfl,by simp,fun j v hv=>by
  have hj:j < cs.size:=by have:=(List.getElem?_eq_some_iff.1 hv).1;simpa using this
  rw[Nat.zero_add,(Bk.new w t cs).cell j]
  simpa using hv⟩⟩
/-- cells of a row of structs -/
def Els {α:Type} (R:World→α→List Value→Prop) (s:Nat) (w:World) (l:List α) (xs:List Value):Prop :=
 ∃ rs:List (List Value),xs=rs.flatten∧rs.length=l.length∧∀ (i:Nat) x r,l[i]?=some x→rs[i]?=some r→r.length=s∧R w x r
section
variable {α:Type} {R:World→α→List Value→Prop} {s:Nat} {w w':World} {l:List α} {xs:List Value}
theorem Els.nil (R:World→α→List Value→Prop) (s:Nat) (w:World):Els R s w [] []:=⟨[],rfl,rfl,fun i x r h=>(by cases h)⟩
end
section
variable {S:Nat→Prop} {w w':World}
end
theorem i64_lit {z:Int} (h:I64 z):(Lit.int .i64 z).wf=true:=by
 simp only[Lit.wf,Bool.and_eq_true,decide_eq_true_eq]
 exact h
theorem mthP.ok {m:Mth} (h:mthP m):m.ok :=
 ⟨i64_lit h.2.1,i64_lit h.2.2.1,fun x hx=>let ⟨a,b,c⟩:=h.2.2.2.1.2 x hx;⟨i64_lit a,i64_lit b,i64_lit c⟩,by have:=h.1;omega,fun s hs=>by have:=h.2.2.2.2.2 s hs;omega,by have:=h.2.2.2.1.1;omega,by have:=h.2.2.2.2.1;omega⟩
theorem clsP.ok {k:Cls} (h:clsP k):k.ok :=
 ⟨by have:=h.1;omega,fun s hs=>by have:=h.2.2.1.2 s hs;omega,by have:=h.2.2.1.1;omega,by have:=h.2.2.2.1;omega⟩
end
section
open Go.ChangeShapes Go.WideShapes Go.ChangeAt Go.RowKit Go.Deep
theorem cellsInstr:Tryd.prog.cellsOf 37=3:=by kernel_rfl
theorem cellsMethod:Tryd.prog.cellsOf 43=5:=by kernel_rfl
theorem cellsInt64:Tryd.prog.cellsOf 2=1:=by kernel_rfl
theorem cellsInt:Tryd.prog.cellsOf 3=1:=by kernel_rfl
theorem cellsStr:Tryd.prog.cellsOf 9=1:=by kernel_rfl
theorem cellsSlI:Tryd.prog.cellsOf 41=1:=by kernel_rfl
theorem cellsSlS:Tryd.prog.cellsOf 40=1:=by kernel_rfl
section
variable {H:Type} {enc:TypeId × Value→H} {w:World} {base:Nat} {spare:Nat→Bool} {held:Bool}
theorem open_instr {fuel:Nat} {cs:List Value} {x:DataW H × List MemPlace} (h:DataW.trod enc Tryd.prog w base spare held fuel 37 cs=some x) :
  ∃ a b c:Int,cs=[.int .i64 a,.int .i64 b,.int .i64 c]∧(Lit.int .i64 a).wf=true∧(Lit.int .i64 b).wf=true∧(Lit.int .i64 c).wf=true:=by
 obtain⟨xs,n,_,_,hlen,hxl,hg⟩:=DataW.trod_struct Tryd.underlying37 h
 rw[cellsInstr] at hlen
 match cs,hlen with
 | [u0,u1,u2],_ =>
  match xs,hxl with
  | [y0,y1,y2],_ =>
   have h0:DataW.trod enc Tryd.prog w base spare held n 3 (([u0,u1,u2].drop 0).take (Tryd.prog.cellsOf 3))=some y0:=hg 0 _ rfl
   have h1:DataW.trod enc Tryd.prog w base spare held n 2 (([u0,u1,u2].drop 1).take (Tryd.prog.cellsOf 2))=some y1:=hg 1 _ rfl
   have h2:DataW.trod enc Tryd.prog w base spare held n 2 (([u0,u1,u2].drop 2).take (Tryd.prog.cellsOf 2))=some y2:=hg 2 _ rfl
   rw[cellsInt] at h0
   rw[cellsInt64] at h1 h2
   obtain⟨a,e0,_,w0⟩:=DataW.trod_int Tryd.underlying3 (show DataW.trod enc Tryd.prog w base spare held n 3 [u0]=some y0 from h0)
   obtain⟨b,e1,_,w1⟩:=DataW.trod_int Tryd.underlying2 (show DataW.trod enc Tryd.prog w base spare held n 2 [u1]=some y1 from h1)
   obtain⟨c,e2,_,w2⟩:=DataW.trod_int Tryd.underlying2 (show DataW.trod enc Tryd.prog w base spare held n 2 [u2]=some y2 from h2)
   simp only[List.cons.injEq,and_true] at e0 e1 e2
   subst e0 e1 e2
   exact⟨a,b,c,rfl,w0,w1,w2⟩
theorem spot_of_cell {a:Addr} {v:Value} (h:w.cell? a=some v):a=⟨a.block,a.off,none⟩:=by
 have:=World.cell?_spot h
 cases a
 simp_all
theorem choose_list {α:Type} {p:Nat→α→Prop}:∀ n,(∀ i,i < n→∃ x,p i x)→∃ l:List α,l.length=n∧∀ i x,l[i]?=some x→p i x
 | 0,_=>⟨[],rfl,fun i x h=>by cases h⟩
 | n+1,h=>by
  obtain⟨l,h1,h2⟩:=choose_list n (fun i hi=>h i (by omega))
  obtain⟨x,hx⟩:=h n (by omega)
  refine⟨l++[x],by simp[h1],fun i y hy=>?_⟩
  by_cases hi:i < n
  ·rw[List.getElem?_append_left (by omega)] at hy
   exact h2 i y hy
  ·have hin:i=n:=by
    have:=(List.getElem?_eq_some_iff.1 hy).1
    simp[h1] at this
    omega
   subst hin
   rw[List.getElem?_append_right (by omega),h1] at hy
   simp at hy
   exact hy ▸ hx
end
end
section
open Go.ChangeShapes Go.WideShapes Go.ChangeAt Go.RowKit Go.Deep
theorem cellsClass:Tryd.prog.cellsOf 48=4:=by kernel_rfl
theorem cellsBool:Tryd.prog.cellsOf 4=1:=by kernel_rfl
theorem cellsSlM:Tryd.prog.cellsOf 46=1:=by kernel_rfl
theorem cellsSlK:Tryd.prog.cellsOf 22=1:=by kernel_rfl
theorem cellsCode:Tryd.prog.cellsOf 24=1:=by kernel_rfl
/-- every slice and string of a datum is within the reach -/
def Wgt {H:Type} (P:Program) (t:TypeId) (d:DataW H):Prop:=∀ n∈d.weights P t,n≤reachBytes
theorem weightsAll_mem {H:Type} {P:Program} {e:TypeId} {l:List (DataW H)} {d:DataW H} (hd:d∈l) {n:Nat} (hn:n∈d.weights P e):n∈DataW.weightsAll P e l:=by
 induction l with
 | nil=>cases hd
 | cons a r ih =>
  unfold DataW.weightsAll
  rcases List.mem_cons.1 hd with rfl | h
  ·exact List.mem_append_left _ hn
  ·exact List.mem_append_right _ (ih h)
theorem weightsEach_mem {H:Type} {P:Program}:∀ {ts:List TypeId} {l:List (DataW H)} (i:Nat) {t:TypeId} {d:DataW H},ts[i]?=some t→l[i]?=some d→∀ {n:Nat},n∈d.weights P t→n∈DataW.weightsEach P ts l
 | [],_,i,t,d,ht,_,n,_=>by cases ht
 | _::_,[],i,t,d,_,hd,n,_=>by cases hd
 | a::ts,b::l,0,t,d,ht,hd,n,hn=>by
  simp at ht hd;subst ht;subst hd
  unfold DataW.weightsEach
  exact List.mem_append_left _ hn
 | a::ts,b::l,i+1,t,d,ht,hd,n,hn=>by
  unfold DataW.weightsEach
  exact List.mem_append_right _ (weightsEach_mem i (by simpa using ht) (by simpa using hd) hn)
theorem Wgt.part {H:Type} {P:Program} {t:TypeId} {fs:Array Field} (ht:P.underlying t=some (.struct fs)) {parts:List (DataW H)} (h:Wgt P t (.agg parts)) (i:Nat) {f:Field} {d:DataW H} (hf:fs[i]?=some f) (hd:parts[i]?=some d):Wgt P f.type d:=fun n hn =>
 h n (by
  simp only[DataW.weights,ht]
  exact weightsEach_mem i (by simpa using ⟨f,hf,rfl⟩) hd hn)
theorem Wgt.str {H:Type} {P:Program} {t:TypeId} {s:ByteArray} (h:Wgt (H:=H) P t (.lit (.string s.data.toList))):s.size≤140737488351232:=by
 have:=h s.data.toList.length (by simp[DataW.weights])
 unfold reachBytes at this
 have e:s.data.toList.length=s.size:=rfl
 omega
theorem wgt_of {H:Type} {P:Program} {ts:List TypeId} {ds:List (DataW H)} (h:(DataW.weightsEach P ts ds).all (·≤reachBytes)=true) {j:Nat} {t:TypeId} {d:DataW H} (ht:ts[j]?=some t) (hd:ds[j]?=some d):Wgt P t d :=
 fun n hn=>by simpa using List.all_eq_true.1 h n (DataW.weights_mem_each ht hd n hn)
section
variable {H:Type} {enc:TypeId × Value→H} {w:World} {base:Nat} {spare:Nat→Bool} {held:Bool}
theorem open_slR {α:Type} (R:World→α→List Value→Prop) {t e:TypeId} {s bt:Nat} (ht:Tryd.prog.underlying t=some (.slice e)) (hs:Tryd.prog.cellsOf e=s) (hbt:Tryd.prog.bytesOf e=bt) (hb1:1≤bt) (hs0:1≤s)
  (hR:∀ fuel cs x,cs.length=s→DataW.trod enc Tryd.prog w base spare held fuel e cs=some x→Wgt Tryd.prog e x.1→∃ y,R w y cs)
  {fuel:Nat} {v:Value} {x:DataW H × List MemPlace} (h:DataW.trod enc Tryd.prog w base spare held fuel t [v]=some x) (hw:Wgt Tryd.prog t x.1) :
  ∃ A n c,v=.slice A n c∧n≤c∧n≤140737488351232∧∃ xs:List α,SlR R w s A n xs:=by
 rcases open_slice ht h with ⟨h0,_⟩ | ⟨a,len,cap,m,n,D,Pl,hcs,hb,hl,hm,hmm,hx,hi⟩
 ·simp only[List.cons.injEq,and_true] at h0
  subst h0
  exact⟨none,0,0,rfl,Nat.le_refl _,by omega,[],SlR.nil _ _ _ _⟩
 ·simp only[List.cons.injEq,and_true] at hcs
  subst hcs
  have hml:len≤m:=by rw[hmm];split <;> omega
  rw[hx] at hw
  have hlen:len≤140737488351232:=by
   have:=hw ((len+(m - len))*bt) (by simp[DataW.weights,ht,hbt])
   simp only[reachBytes] at this
   have h2:(len+(m - len))*1≤(len+(m - len))*bt:=Nat.mul_le_mul_left _ hb1
   omega
  refine⟨some a,len,cap,rfl,hl,hlen,?_⟩
  obtain⟨l,hl1,hp⟩:=choose_list (α:=α × List Value) (p:=fun i y=>y.2.length=s∧R w y.1 y.2∧∀ j v,y.2[j]?=some v→w.cell? (a.add (i*s+j))=some v) len (fun i hil=>by
   obtain⟨cs',hc,htr⟩:=hi i (by omega)
   rw[hs] at hc
   obtain⟨_,hcl,hat⟩:=World.cells?_some hc
   have hwi:Wgt Tryd.prog e (D i,Pl i).1:=fun n hn=>hw n (by
    simp only[DataW.weights,ht]
    refine List.mem_cons_of_mem _ (List.mem_append_left _ (weightsAll_mem (d:=D i) ?_ hn))
    exact List.mem_map.2 ⟨i,by simpa using hil,rfl⟩)
   obtain⟨y,hy⟩:=hR n cs' _ hcl htr hwi
   refine⟨(y,cs'),hcl,hy,fun j v hv=>?_⟩
   have hj:j < s:=by
    have:=(List.getElem?_eq_some_iff.1 hv).1
    rw[hcl] at this
    exact this
   have g:=hat j hj
   rw[Go.Deep.add_add] at g
   rw[← hv]
   simpa using g)
  refine⟨l.map (·.1),by simp[hl1],?_⟩
  rcases Nat.eq_zero_or_pos len with h0 | h0
  ·exact .inl h0
  ·focus
    obtain⟨y0,hy0⟩:∃ y,l[0]?=some y:=⟨_,List.getElem?_eq_getElem (by omega)⟩
    obtain⟨q1,q2,q3⟩:=hp 0 y0 hy0
    obtain⟨v0,hv0⟩:∃ v,y0.2[0]?=some v:=⟨_,List.getElem?_eq_getElem (by omega)⟩
    have q0:=q3 0 v0 hv0
    have ea:a=⟨a.block,a.off,none⟩:=by
     have:=spot_of_cell q0
     simpa [Addr.add] using this
    have eadd:∀ n,a.add n=⟨a.block,a.off+n,none⟩:=fun n=>by
     unfold Addr.add
     split
     ·rename_i h;subst h;exact ea
     ·rfl
    refine .inr ⟨a.block,a.off,by rw[← ea],?_,fun i x hx=>?_⟩
    ·have:=cell_lt q0
     rw[eadd] at this
     exact this
    ·obtain⟨y,hy,rfl⟩:∃ y,l[i]?=some y∧y.1=x:=by simpa using hx
     obtain⟨r1,r2,r3⟩:=hp i y hy
     refine⟨y.2,r1,r2,fun j v hv=>?_⟩
     have:=r3 j v hv
     rw[eadd] at this
     rw[Nat.add_assoc]
     exact this
/-- one string -/
def StrR (w:World) (s:ByteArray) (r:List Value):Prop:=r=[.string s]∧s.size≤140737488351232
def InsR (w:World) (x:Ins) (r:List Value):Prop:=r=[.int .i64 x.1,.int .i64 x.2.1,.int .i64 x.2.2]∧(Lit.int .i64 x.1).wf=true∧(Lit.int .i64 x.2.1).wf=true∧(Lit.int .i64 x.2.2).wf=true
theorem SlR.all {α:Type} {R:World→α→List Value→Prop} {s n:Nat} {A:Option Addr} {xs:List α} (h:SlR R w s A n xs) {P:α→Prop} (hP:∀ x r,R w x r→P x):∀ x∈xs,P x:=fun x hx=>by
 obtain⟨i,hi⟩:=List.mem_iff_getElem?.1 hx
 have hil:=(List.getElem?_eq_some_iff.1 hi).1
 obtain⟨b,o,y,r,_,_,hy,_,hR,_⟩:=h.get (k:=i) (by rw[← h.1];exact hil)
 rw[hi] at hy
 cases hy
 exact hP _ _ hR
theorem SlR.txt {n:Nat} {A:Option Addr} {xs:List ByteArray} (h:SlR StrR w 1 A n xs):Sl w 1 A n (txtCells xs):=by
 refine⟨by simp[txtCells,h.1],?_⟩
 rcases h.2 with h0 | ⟨b,o,hA,hb,hc⟩
 ·exact .inl h0
 ·refine .inr ⟨b,o,hA,hb,fun j v hv=>?_⟩
  obtain⟨x,hx,rfl⟩:∃ x,xs[j]?=some x∧Value.string x=v:=by simpa [txtCells] using hv
  obtain⟨r,h1,⟨h2,_⟩,h3⟩:=hc j x hx
  subst h2
  have:=h3 0 _ rfl
  simpa using this
theorem SlR.ins {n:Nat} {A:Option Addr} {xs:List Ins} (h:SlR InsR w 3 A n xs):Sl w 3 A n (codeCells xs):=by
 refine⟨by rw[codeCells_length,h.1],?_⟩
 rcases h.2 with h0 | ⟨b,o,hA,hb,hc⟩
 ·exact .inl h0
 ·refine .inr ⟨b,o,hA,hb,fun j y hy=>?_⟩
  have hj:j < n*3:=by
   have:=(List.getElem?_eq_some_iff.1 hy).1
   rw[codeCells_length,h.1] at this
   exact this
  obtain⟨x,hx⟩:∃ x,xs[j / 3]?=some x:=⟨_,List.getElem?_eq_getElem (by rw[h.1];omega)⟩
  obtain⟨r,_,⟨hr,_⟩,h3⟩:=hc _ x hx
  subst hr
  obtain⟨k0,k1,k2⟩:=codeCells_get xs _ x hx
  have q0:=h3 0 _ rfl
  have q1:=h3 1 _ rfl
  have q2:=h3 2 _ rfl
  have h4:j=j / 3*3 ∨ j=j / 3*3+1 ∨ j=j / 3*3+2:=by omega
  rcases h4 with h4 | h4 | h4
  ·rw[h4,k0] at hy;rw[h4,← hy];simpa using q0
  ·rw[h4,k1] at hy;rw[h4,← hy];simpa [Nat.add_assoc] using q1
  ·rw[h4,k2] at hy;rw[h4,← hy];simpa [Nat.add_assoc] using q2
theorem open_strR (fuel:Nat) (cs:List Value) (x:DataW H × List MemPlace) (_:cs.length=1) (h:DataW.trod enc Tryd.prog w base spare held fuel 9 cs=some x) (hw:Wgt Tryd.prog 9 x.1):∃ y,StrR w y cs:=by
 obtain⟨s,rfl,rfl,_⟩:=DataW.trod_string Tryd.underlying9 h
 exact⟨s,rfl,hw.str⟩
theorem open_insR (fuel:Nat) (cs:List Value) (x:DataW H × List MemPlace) (_:cs.length=3) (h:DataW.trod enc Tryd.prog w base spare held fuel 37 cs=some x) (_:Wgt Tryd.prog 37 x.1):∃ y,InsR w y cs:=by
 obtain⟨a,b,c,rfl,w0,w1,w2⟩:=open_instr h
 exact⟨(a,b,c),rfl,w0,w1,w2⟩
theorem open_mthR (fuel:Nat) (cs:List Value) (x:DataW H × List MemPlace) (hlen:cs.length=5) (h:DataW.trod enc Tryd.prog w base spare held fuel 43 cs=some x) (hw:Wgt Tryd.prog 43 x.1):∃ y,MthR w y cs:=by
 obtain⟨xs,n,_,rfl,_,hxl,hg⟩:=DataW.trod_struct Tryd.underlying43 h
 match cs,hlen with
 | [u0,u1,u2,u3,u4],_ =>
  match xs,hxl with
  | [y0,y1,y2,y3,y4],_ =>
   have h0:DataW.trod enc Tryd.prog w base spare held n 9 (([u0,u1,u2,u3,u4].drop 0).take (Tryd.prog.cellsOf 9))=some y0:=hg 0 _ rfl
   have h1:DataW.trod enc Tryd.prog w base spare held n 3 (([u0,u1,u2,u3,u4].drop 1).take (Tryd.prog.cellsOf 3))=some y1:=hg 1 _ rfl
   have h2:DataW.trod enc Tryd.prog w base spare held n 3 (([u0,u1,u2,u3,u4].drop 2).take (Tryd.prog.cellsOf 3))=some y2:=hg 2 _ rfl
   have h3:DataW.trod enc Tryd.prog w base spare held n 41 (([u0,u1,u2,u3,u4].drop 3).take (Tryd.prog.cellsOf 41))=some y3:=hg 3 _ rfl
   have h4:DataW.trod enc Tryd.prog w base spare held n 40 (([u0,u1,u2,u3,u4].drop 4).take (Tryd.prog.cellsOf 40))=some y4:=hg 4 _ rfl
   rw[cellsStr] at h0
   rw[cellsInt] at h1 h2
   rw[cellsSlI] at h3
   rw[cellsSlS] at h4
   have w0:Wgt Tryd.prog 9 y0.1:=hw.part Tryd.underlying43 0 rfl rfl
   have w3:Wgt Tryd.prog 41 y3.1:=hw.part Tryd.underlying43 3 rfl rfl
   have w4:Wgt Tryd.prog 40 y4.1:=hw.part Tryd.underlying43 4 rfl rfl
   obtain⟨s,e0,rfl,_⟩:=DataW.trod_string Tryd.underlying9 (show DataW.trod enc Tryd.prog w base spare held n 9 [u0]=some y0 from h0)
   obtain⟨p,e1,_,wp⟩:=DataW.trod_int Tryd.underlying3 (show DataW.trod enc Tryd.prog w base spare held n 3 [u1]=some y1 from h1)
   obtain⟨l,e2,_,wl⟩:=DataW.trod_int Tryd.underlying3 (show DataW.trod enc Tryd.prog w base spare held n 3 [u2]=some y2 from h2)
   simp only[List.cons.injEq,and_true] at e0 e1 e2
   subst e0 e1 e2
   obtain⟨A,nc,c,rfl,hc1,hc2,code,hcode⟩:=open_slR InsR Tryd.underlying41 cellsInstr (show Tryd.prog.bytesOf 37=24 by kernel_rfl) (by omega) (by omega) open_insR (show DataW.trod enc Tryd.prog w base spare held n 41 [u3]=some y3 from h3) w3
   obtain⟨B,nn,d,rfl,hn1,hn2,names,hnames⟩:=open_slR StrR Tryd.underlying40 cellsStr (show Tryd.prog.bytesOf 9=16 by kernel_rfl) (by omega) (by omega) open_strR (show DataW.trod enc Tryd.prog w base spare held n 40 [u4]=some y4 from h4) w4
   obtain rfl:=hcode.1
   obtain rfl:=hnames.1
   exact⟨⟨s,p,l,code,names⟩,⟨wp,wl,hcode.all fun x r hr=>hr.2,w0.str,hnames.all fun x r hr=>hr.2,hc2,hn2⟩,A,c,B,d,rfl,hc1,hcode.ins,hn1,hnames.txt⟩
theorem open_clsR (fuel:Nat) (cs:List Value) (x:DataW H × List MemPlace) (hlen:cs.length=4) (h:DataW.trod enc Tryd.prog w base spare held fuel 48 cs=some x) (hw:Wgt Tryd.prog 48 x.1):∃ y,ClsR w y cs:=by
 obtain⟨xs,n,_,rfl,_,hxl,hg⟩:=DataW.trod_struct Tryd.underlying48 h
 match cs,hlen with
 | [u0,u1,u2,u3],_ =>
  match xs,hxl with
  | [y0,y1,y2,y3],_ =>
   have h0:DataW.trod enc Tryd.prog w base spare held n 9 (([u0,u1,u2,u3].drop 0).take (Tryd.prog.cellsOf 9))=some y0:=hg 0 _ rfl
   have h1:DataW.trod enc Tryd.prog w base spare held n 4 (([u0,u1,u2,u3].drop 1).take (Tryd.prog.cellsOf 4))=some y1:=hg 1 _ rfl
   have h2:DataW.trod enc Tryd.prog w base spare held n 40 (([u0,u1,u2,u3].drop 2).take (Tryd.prog.cellsOf 40))=some y2:=hg 2 _ rfl
   have h3:DataW.trod enc Tryd.prog w base spare held n 46 (([u0,u1,u2,u3].drop 3).take (Tryd.prog.cellsOf 46))=some y3:=hg 3 _ rfl
   rw[cellsStr] at h0
   rw[cellsBool] at h1
   rw[cellsSlS] at h2
   rw[cellsSlM] at h3
   have w0:Wgt Tryd.prog 9 y0.1:=hw.part Tryd.underlying48 0 rfl rfl
   have w2:Wgt Tryd.prog 40 y2.1:=hw.part Tryd.underlying48 2 rfl rfl
   have w3:Wgt Tryd.prog 46 y3.1:=hw.part Tryd.underlying48 3 rfl rfl
   obtain⟨s,e0,rfl,_⟩:=DataW.trod_string Tryd.underlying9 (show DataW.trod enc Tryd.prog w base spare held n 9 [u0]=some y0 from h0)
   obtain⟨bb,e1,_⟩:=DataW.trod_bool Tryd.underlying4 (show DataW.trod enc Tryd.prog w base spare held n 4 [u1]=some y1 from h1)
   simp only[List.cons.injEq,and_true] at e0 e1
   subst e0 e1
   obtain⟨F,nf,c,rfl,hf1,hf2,fields,hfields⟩:=open_slR StrR Tryd.underlying40 cellsStr (show Tryd.prog.bytesOf 9=16 by kernel_rfl) (by omega) (by omega) open_strR (show DataW.trod enc Tryd.prog w base spare held n 40 [u2]=some y2 from h2) w2
   obtain⟨M,nm,d,rfl,hm1,hm2,ms,hms⟩:=open_slR MthR Tryd.underlying46 cellsMethod (show Tryd.prog.bytesOf 43=80 by kernel_rfl) (by omega) (by omega) open_mthR (show DataW.trod enc Tryd.prog w base spare held n 46 [u3]=some y3 from h3) w3
   obtain rfl:=hfields.1
   have hml:=hms.1
   subst hml
   exact⟨⟨s,bb,fields,ms⟩,⟨w0.str,hfields.all fun x r hr=>hr.2,hf2,hm2⟩,F,c,M,d,rfl,hf1,hfields.txt,hm1,hms⟩
theorem open_codeV {r:_root_.Go.Reach} {b0:Nat} {v:Value} {d:DataW H} {p:List MemPlace} (hv:Value.okWide Tryd.prog w r b0 24 v) (h:DataW.Trod enc Tryd.prog w base spare held 24 v d p) (hw:Wgt Tryd.prog 24 d) :
  ∃ A n c cs,v=.agg #[.slice A n c]∧CodeR w cs A n c:=by
 obtain⟨us,rfl,hsz⟩:=okWide_struct Tryd.underlying24 hv
 rw[cellsCode] at hsz
 obtain⟨fuel,hf⟩:=h
 obtain⟨xs,n,_,hd,_,hxl,hg⟩:=DataW.trod_struct Tryd.underlying24 hf
 obtain⟨l⟩:=us
 match l,hsz with
 | [u0],_ =>
  match xs,hxl with
  | [y0],_ =>
   have h0:DataW.trod enc Tryd.prog w base spare held n 22 (([u0].drop 0).take (Tryd.prog.cellsOf 22))=some y0:=hg 0 _ rfl
   rw[cellsSlK] at h0
   simp only[Prod.mk.injEq] at hd
   rw[hd.1] at hw
   have w0:Wgt Tryd.prog 22 y0.1:=hw.part Tryd.underlying24 0 rfl rfl
   obtain⟨A,nk,c,rfl,hk1,hk2,ks,hks⟩:=open_slR ClsR Tryd.underlying22 cellsClass (show Tryd.prog.bytesOf 48=72 by kernel_rfl) (by omega) (by omega) open_clsR (show DataW.trod enc Tryd.prog w base spare held n 22 [u0]=some y0 from h0) w0
   exact⟨A,nk,c,ks,rfl,hks.1,hk1,hk2,hks⟩
end
end
section
open Go.RowKit
attribute [local go_sem] Oper.semAt_some
section
variable {w:World} {A B:Option Addr} {c d:Nat} {a b:List ByteArray}
set_option maxHeartbeats 2000000 in
theorem sameTexts_any (ha:Sl w 1 A a.length (txtCells a)) (hb:Sl w 1 B b.length (txtCells b)) (hc:a.length≤c) (hd:b.length≤d) (hl:a.length≤140737488351232) (hm:b.length≤140737488351232):Calls Tryd.prog 24 #[.slice A a.length c,.slice B b.length d] w fun e w'=>e=.returned (.bool (decide (a=b)))∧Below w.heap.size w w':=by
 by_cases hn:a.length=b.length
 ·have HA:=lh (And.intro ha hb)
  have HN:=lh hn
  rw[← hn] at hd ⊢
  have HB0:Hid (Below w.heap.size w w):=lh (Below.refl _ _)
  clear ha hb hm
  go_enter Tryd.func24,Tryd.ntmps24
  go_wp2_with fail
  go_loopw [5] (fun ix wr=>∃ j:Nat,ix=.int .i64 (j:Int)∧j≤a.length∧a.take j=b.take j∧Below w.heap.size w wr) (fun ix _=>a.length - (intOf ix).toNat)
  case atStart=>exact⟨0,rfl,Nat.zero_le _,rfl,HB0.out⟩
  case round =>
   obtain⟨j,rfl,hj,ht,hbl⟩:=hrel
   have HT:=lh (And.intro ht hbl)
   clear ht hbl
   by_cases hlt:j < a.length
   ·have hlt2:j < b.length:=by rw[← HN.out];exact hlt
    have hx:a[j]?=some a[j]:=List.getElem?_eq_getElem hlt
    have hy:b[j]?=some b[j]:=List.getElem?_eq_getElem hlt2
    obtain⟨ba,oa,hA,hba,hca⟩:=HA.out.1.2.resolve_left (by omega)
    obtain⟨bc,ob,hB,hbb,hcb⟩:=HA.out.2.2.resolve_left (by omega)
    have e1:wr.cell? ⟨ba,oa+j,none⟩=some (.string a[j]):=(HT.out.2.cell (p:=⟨ba,oa+j,none⟩) hba).trans (hca j _ (by unfold txtCells;rw[List.getElem?_map,hx];rfl))
    have e2:wr.cell? ⟨bc,ob+j,none⟩=some (.string b[j]):=(HT.out.2.cell (p:=⟨bc,ob+j,none⟩) hbb).trans (hcb j _ (by unfold txtCells;rw[List.getElem?_map,hy];rfl))
    subst hA hB
    have hjc:j < c:=by omega
    have hjd:j < d:=by omega
    have HXY:=lh (And.intro hx hy)
    obtain⟨x,hxx⟩:∃ x,x=a[j]:=⟨_,rfl⟩
    obtain⟨y,hyy⟩:∃ y,y=b[j]:=⟨_,rfl⟩
    rw[← hxx] at e1 HXY
    rw[← hyy] at e2 HXY
    have HBD:Hid (∀ k,Below w.heap.size w (wr.drewN k)):=lh fun k=>below_drewN HT.out.2 k
    clear hx hy hca hcb hba hbb hxx hyy hlt2
    by_cases he:x=y
    ·have d1:(!(x.toList == y.toList))=false:=by rw[he];simp
     have HEQ:=lh he
     clear he
     go_upto_region 6 with fail
     go_quiet (fail)
     go_wp2_with fail
     go_roundw
     case rel=>exact⟨j+1,by go_num,hlt,by rw[List.take_add_one,List.take_add_one,HXY.out.1,HXY.out.2,HT.out.1,HEQ.out],HBD.out _⟩
     case measure=>simp[intOf];omega
    ·have d1:(!(x.toList == y.toList))=true:=by
      simp only[Bool.not_eq_true',beq_eq_false_iff_ne,ne_eq]
      intro e
      rw[Go.ByteArray.toList_eq,Go.ByteArray.toList_eq] at e
      exact he (Go.WideShapes.bytes_inj e)
     have HE:Hid (decide (a=b)=false):=lh (decide_eq_false fun e=>he (by have h1:=HXY.out.1;rw[e,HXY.out.2] at h1;injection h1 with h1;exact h1.symm))
     clear he
     go_upto_region 6 with fail
     go_quiet (fail)
     go_wp2_with fail
     go_ret
     rw[HE.out]
     exact⟨rfl,HBD.out _⟩
   ·obtain rfl:j=a.length:=by omega
    have he:a=b:=by have:=HT.out.1;rw[List.take_length,HN.out,List.take_length] at this;exact this
    have HE:Hid (decide (a=b)=true):=lh (decide_eq_true he)
    clear hlt hj he
    go_wp2_with fail
    go_ret
    rw[HE.out]
    exact⟨rfl,HT.out.2⟩
 ·have d0:((a.length:Int) != (b.length:Int))=true:=by simpa using (show ¬ (a.length:Int)=b.length by omega)
  have HE:Hid (decide (a=b)=false):=lh (decide_eq_false fun e=>hn (by rw[e]))
  clear ha hb hn
  go_enter Tryd.func24,Tryd.ntmps24
  go_wp2_with fail
  go_ret
  rw[HE.out]
  exact⟨rfl,Below.refl _ _⟩
end
end
section
open Go.RowKit
attribute [local go_sem] Oper.semAt_some
section
variable {w:World} {A B:Option Addr} {c d:Nat} {a b:List Ins}
set_option maxHeartbeats 2000000 in
theorem EqIns_any (ha:Sl w 3 A a.length (codeCells a)) (hb:Sl w 3 B b.length (codeCells b)) (hc:a.length≤c) (hd:b.length≤d) (hl:a.length≤140737488351232) (hm:b.length≤140737488351232):Calls Tryd.prog 23 #[.slice A a.length c,.slice B b.length d] w fun e w'=>e=.returned (.bool (decide (a=b)))∧Below w.heap.size w w':=by
 by_cases hn:a.length=b.length
 ·have HA:=lh (And.intro ha hb)
  have HN:=lh hn
  rw[← hn] at hd ⊢
  have HB0:Hid (Below w.heap.size w w):=lh (Below.refl _ _)
  clear ha hb hm
  go_enter Tryd.func23,Tryd.ntmps23
  go_wp2_with fail
  go_loopw [13] (fun ix wr=>∃ j:Nat,ix=.int .i64 (j:Int)∧j≤a.length∧a.take j=b.take j∧Below w.heap.size w wr) (fun ix _=>a.length - (intOf ix).toNat)
  case atStart=>exact⟨0,rfl,Nat.zero_le _,rfl,HB0.out⟩
  case round =>
   obtain⟨j,rfl,hj,ht,hbl⟩:=hrel
   have HT:=lh (And.intro ht hbl)
   clear ht hbl
   by_cases hlt:j < a.length
   ·have hlt2:j < b.length:=by rw[← HN.out];exact hlt
    have hx:a[j]?=some a[j]:=List.getElem?_eq_getElem hlt
    have hy:b[j]?=some b[j]:=List.getElem?_eq_getElem hlt2
    obtain⟨ba,oa,hA,hba,hca⟩:=HA.out.1.2.resolve_left (by omega)
    obtain⟨bc,ob,hB,hbb,hcb⟩:=HA.out.2.2.resolve_left (by omega)
    obtain⟨x0,x1,x2⟩:=codeCells_get a j a[j] hx
    obtain⟨y0,y1,y2⟩:=codeCells_get b j b[j] hy
    have e0:wr.cell? ⟨ba,oa+j*3,none⟩=some (.int .i64 a[j].1):=(HT.out.2.cell (p:=⟨ba,oa+j*3,none⟩) hba).trans (hca _ _ x0)
    have e1:wr.cell? ⟨ba,oa+j*3+1,none⟩=some (.int .i64 a[j].2.1):=(HT.out.2.cell (p:=⟨ba,oa+j*3+1,none⟩) hba).trans (hca _ _ x1)
    have e2:wr.cell? ⟨ba,oa+j*3+2,none⟩=some (.int .i64 a[j].2.2):=(HT.out.2.cell (p:=⟨ba,oa+j*3+2,none⟩) hba).trans (hca _ _ x2)
    have f0:wr.cell? ⟨bc,ob+j*3,none⟩=some (.int .i64 b[j].1):=(HT.out.2.cell (p:=⟨bc,ob+j*3,none⟩) hbb).trans (hcb _ _ y0)
    have f1:wr.cell? ⟨bc,ob+j*3+1,none⟩=some (.int .i64 b[j].2.1):=(HT.out.2.cell (p:=⟨bc,ob+j*3+1,none⟩) hbb).trans (hcb _ _ y1)
    have f2:wr.cell? ⟨bc,ob+j*3+2,none⟩=some (.int .i64 b[j].2.2):=(HT.out.2.cell (p:=⟨bc,ob+j*3+2,none⟩) hbb).trans (hcb _ _ y2)
    clear x0 x1 x2 y0 y1 y2
    subst hA hB
    have hjc:j < c:=by omega
    have hjd:j < d:=by omega
    have HXY:=lh (And.intro hx hy)
    obtain⟨x,hxx⟩:∃ x,x=a[j]:=⟨_,rfl⟩
    obtain⟨y,hyy⟩:∃ y,y=b[j]:=⟨_,rfl⟩
    rw[← hxx] at e0 e1 e2 HXY
    rw[← hyy] at f0 f1 f2 HXY
    have HBD:Hid (∀ k,Below w.heap.size w (wr.drewN k)):=lh fun k=>below_drewN HT.out.2 k
    clear hx hy hca hcb hba hbb hxx hyy hlt2
    obtain⟨xo,xa,xb⟩:=x
    obtain⟨yo,ya,yb⟩:=y
    dsimp only at e0 e1 e2 f0 f1 f2
    by_cases he:((xo,xa,xb):Ins)=(yo,ya,yb)
    ·injection he with h1 h2
     injection h2 with h2 h3
     subst h1 h2 h3
     go_upto_region 6 with fail
     go_quiet (fail)
     go_wp2_with fail
     go_roundw
     case rel=>exact⟨j+1,by go_num,hlt,by rw[List.take_add_one,List.take_add_one,HXY.out.1,HXY.out.2,HT.out.1],HBD.out _⟩
     case measure=>simp[intOf];omega
    ·have HE:Hid (decide (a=b)=false):=lh (decide_eq_false fun e=>he (by have h1:=HXY.out.1;rw[e,HXY.out.2] at h1;injection h1 with h1;exact h1.symm))
     by_cases h1:xo=yo
     ·subst h1
      by_cases h2:xa=ya
      ·subst h2
       have d1:(xb == yb)=false:=by simpa using fun h3:xb=yb=>he (by rw[h3])
       clear he
       go_upto_region 6 with fail
       go_quiet (fail)
       go_wp2_with fail
       go_ret
       rw[HE.out]
       exact⟨rfl,HBD.out _⟩
      ·have d1:(xa == ya)=false:=by simpa using h2
       clear he h2
       go_upto_region 6 with fail
       go_quiet (fail)
       go_wp2_with fail
       go_ret
       rw[HE.out]
       exact⟨rfl,HBD.out _⟩
     ·have d1:(xo == yo)=false:=by simpa using h1
      clear he h1
      go_upto_region 6 with fail
      go_quiet (fail)
      go_wp2_with fail
      go_ret
      rw[HE.out]
      exact⟨rfl,HBD.out _⟩
   ·obtain rfl:j=a.length:=by omega
    have he:a=b:=by have:=HT.out.1;rw[List.take_length,HN.out,List.take_length] at this;exact this
    have HE:Hid (decide (a=b)=true):=lh (decide_eq_true he)
    clear hlt hj he
    go_wp2_with fail
    go_ret
    rw[HE.out]
    exact⟨rfl,HT.out.2⟩
 ·have d0:((a.length:Int) != (b.length:Int))=true:=by simpa using (show ¬ (a.length:Int)=b.length by omega)
  have HE:Hid (decide (a=b)=false):=lh (decide_eq_false fun e=>hn (by rw[e]))
  clear ha hb hn
  go_enter Tryd.func23,Tryd.ntmps23
  go_wp2_with fail
  go_ret
  rw[HE.out]
  exact⟨rfl,Below.refl _ _⟩
end
end
end Go.Proofs.YtmbnlccafcfbeaaDoor
