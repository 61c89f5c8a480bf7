/- Parts of the proof: Mem, HeadP, OpsG, MemP, Head, MemQ. -/
import Derived.Deep.Draws
import Derived.Deep.Fields
import Derived.Deep.Slices
import Derived.IntWalk
import Derived.KernelRfl
import Derived.Laws.Bits64b
import Derived.Lib.Hide
import Derived.Lib.QuietBelow
import Derived.OpenShut
import Derived.ProofKit
import Derived.SizedLaws
import Derived.Test.YtaijmgkjbbiboaaGreatChecked
import Derived.Test.YtaijmgkjbbiboaaGreatPcA
import Derived.Test.YtaijmgkjbbiboaaGreatProg
import Derived.WalkKit
set_option linter.unusedVariables false
set_option linter.unusedSimpArgs false
set_option linter.unusedSectionVars false
set_option maxRecDepth 100000
namespace Go.Proofs.YtaijmgkjbbiboaaGreat
section
open Go.RowKit
/-- The slice value with address A and n elements of s cells reads as the cells xs in the world w. -/
def Sl (w:World) (s:Nat) (A:Option Addr) (n:Nat) (xs:List Value):Prop :=
 xs.length=n*s∧(n=0 ∨ ∃ b o,A=some ⟨b,o,none⟩∧b < w.heap.size∧∀ j x,xs[j]?=some x→w.cell? ⟨b,o+j,none⟩=some x)
theorem cell_lt {w:World} {p:Addr} {v:Value} (h:w.cell? p=some v):p.block < w.heap.size:=by
 rcases Nat.lt_or_ge p.block w.heap.size with h1 | h1
 ·exact h1
 ·rw[World.cell?,Array.getElem?_eq_none h1] at h;cases h
theorem Sl.nil (w:World) (s:Nat) (A:Option Addr):Sl w s A 0 []:=⟨by simp,.inl rfl⟩
theorem Sl.get {w:World} {s n:Nat} {A:Option Addr} {xs:List Value} (h:Sl w s A n xs) {k:Nat} (hk:k < n) :
  ∃ b o,A=some ⟨b,o,none⟩∧b < w.heap.size∧∀ j x,xs[j]?=some x→w.cell? ⟨b,o+j,none⟩=some x:=by
 rcases h.2 with h0 | h0
 ·omega
 ·exact h0
theorem Sl.keep {w w':World} {s n:Nat} {A:Option Addr} {xs:List Value} (h:Sl w s A n xs) (hs:w.heap.size≤w'.heap.size)
  (hk:∀ b o v,w.cell? ⟨b,o,none⟩=some v→w'.cell? ⟨b,o,none⟩=some v):Sl w' s A n xs:=by
 refine⟨h.1,?_⟩
 rcases h.2 with h0 | ⟨b,o,e,hb,hc⟩
 ·exact .inl h0
 ·exact .inr ⟨b,o,e,by omega,fun j x hx=>hk _ _ _ (hc j x hx)⟩
theorem Sl.below {w w':World} {s n:Nat} {A:Option Addr} {xs:List Value} (h:Sl w s A n xs) (hb:Below w.heap.size w w'):Sl w' s A n xs :=
 h.keep hb.size fun b o v hv=>(hb.cell (p:=⟨b,o,none⟩) (cell_lt hv)).trans hv
theorem Sl.drew {w:World} {s n:Nat} {A:Option Addr} {xs:List Value} (h:Sl w s A n xs):Sl w.drew s A n xs:=h
theorem Sl.new (w:World) (t:TypeId) (xs:List Value):Sl (w.alloc (.cells xs.toArray t)) 1 (some ⟨w.heap.size,0,none⟩) xs.length xs :=
 ⟨by simp,.inr ⟨_,_,rfl,by simp,fun j x hx=>by simpa using hx⟩⟩
theorem below_drewN {B:Nat} {a w:World} (h:Below B a w) (n:Nat):Below B a (w.drewN n):=⟨h.os,h.tape,h.output,h.size,h.block⟩
theorem ret_bool {a b:Bool} (h:a=b):Ending.returned (.bool a)=.returned (.bool b):=by rw[h]
theorem ret_int {k:IntKind} {a b:Int} (h:a=b):Ending.returned (.int k a)=.returned (.int k b):=by rw[h]
theorem box_kept {w w1:World} {C:Array Value} {t:TypeId} (hb:Below (w.alloc (.cells C t)).heap.size (w.alloc (.cells C t)) w1) (j:Nat):w1.cell? ⟨w.heap.size,j,none⟩=C[j]? :=
 (hb.cell (p:=⟨w.heap.size,j,none⟩) (by simp)).trans (by simp)
theorem bcell {W w1:World} (hb:Below W.heap.size W w1):(∀ b o,b < W.heap.size→w1.cell? ⟨b,o,none⟩=W.cell? ⟨b,o,none⟩)∧(∀ b o,b < W.heap.size→w1.frozen? ⟨b,o,none⟩=W.frozen? ⟨b,o,none⟩) :=
 ⟨fun b o h=>hb.cell (p:=⟨b,o,none⟩) h,fun b o h=>hb.frozen (p:=⟨b,o,none⟩) h⟩
/-- Block g is just the cells cs of element type t, none frozen. -/
def Bk (w:World) (g:Nat) (t:TypeId) (cs:Array Value):Prop:=w.heap[g]?=some (.cells cs t (0,0))
section
variable {w w':World} {g:Nat} {t:TypeId} {cs:Array Value}
theorem Bk.lt (h:Bk w g t cs):g < w.heap.size:=(Array.getElem?_eq_some_iff.1 h).1
theorem Bk.cell (h:Bk w g t cs) (i:Nat):w.cell? ⟨g,i,none⟩=cs[i]?:=by unfold Bk at h;simp[World.cell?,h]
theorem Bk.free (h:Bk w g t cs) (i:Nat):w.frozen? ⟨g,i,none⟩=false:=by unfold Bk at h;simp[World.frozen?,h]
theorem Bk.new (w:World) (t:TypeId) (cs:Array Value):Bk (w.alloc (.cells cs t)) w.heap.size t cs:=by show(w.heap.push _)[w.heap.size]?=_;simp
theorem Bk.alloc (h:Bk w g t cs) (o:Obj):Bk (w.alloc o) g t cs:=(Below.heap_alloc w o g h.lt).trans h
theorem Bk.set (h:Bk w g t cs) (i:Nat) (u:Value):Bk (w.setCell ⟨g,i,none⟩ u) g t (cs.setIfInBounds i u):=by
 unfold Bk at h ⊢
 simp[World.setCell,Array.getElem?_modify,h]
theorem Bk.far (h:Bk w g t cs) {p:Addr} (hp:g≠p.block) (u:Value):Bk (w.setCell p u) g t cs:=(Below.heap_setCell w p u g hp).trans h
theorem Bk.below {B:Nat} (h:Bk w g t cs) (hb:Below B w w') (hg:g < B):Bk w' g t cs:=(hb.block g hg).trans h
theorem Bk.grown {row:Option Nat} (h:Bk w g t cs) (hb:w.grownBy w' row) (hg:some g≠row):Bk w' g t cs:=(hb.block g h.lt hg).trans h
end
/-- a list of ints as cells -/
def ints (l:List Int):List Value:=l.map (Value.int .i64)
end
section
open Go.RowKit
/-- a 64-bit word -/
def U64 (w:Int):Prop:=0≤w∧w < 18446744073709551616
/-- the address of a word -/
def adr (w:Int):Option Int:=if w % 4=2∧w / 4≤4294967295 then some (w / 4) else none
/-- the word of an address -/
def adW (a:Int):Int:=4*a+2
theorem adr_adW {a:Int} (h0:0≤a) (h1:a≤4294967295):adr (adW a)=some a:=by
 unfold adr adW
 rw[if_pos (by omega)]
 congr 1
 omega
theorem adr_some {w a:Int} (h:adr w=some a):w=adW a∧a≤4294967295:=by
 unfold adr at h
 split at h
 ·cases h;unfold adW;omega
 ·cases h
theorem adr_bound {w a:Int} (hw:U64 w) (h:adr w=some a):0≤a∧a≤4294967295:=by
 unfold adr at h
 split at h
 ·cases h;unfold U64 at hw;omega
 ·cases h
structure Hdr where
 k:Int
 c:Int
 f:Int
 deriving DecidableEq
def Hdr.zero:Hdr:=⟨0,0,0⟩
def Hdr.val (h:Hdr):Value:=.agg #[.int .i64 h.k,.int .i64 h.c,.int .i64 h.f]
/-- whether a header is valid -/
def vH (h:Hdr):Bool:=decide (0≤h.c∧h.c≤60∧0≤h.f∧h.f≤30∧(((h.k=0 ∨ h.k=1)∧0 < h.c) ∨ (h.k=2∧h.c=0∧h.f=1) ∨ h.k=3 ∨ h.k=4))
/-- the header word -/
def eH (h:Hdr):Int:=3+4*h.k+256*h.c+16777216*h.f
theorem vH_iff (h:Hdr):vH h=true↔(0≤h.c∧h.c≤60∧0≤h.f∧h.f≤30∧(((h.k=0 ∨ h.k=1)∧0 < h.c) ∨ (h.k=2∧h.c=0∧h.f=1) ∨ h.k=3 ∨ h.k=4)):=by
 unfold vH;exact decide_eq_true_iff
theorem vH_bound {h:Hdr} (hv:vH h=true):0≤h.k∧h.k≤4∧0≤h.c∧h.c≤60∧0≤h.f∧h.f≤30:=by
 have:=(vH_iff h).1 hv
 omega
/-- the parts of a word as a header -/
def pH (w:Int):Hdr:=⟨w / 4 % 64,w / 256 % 65536,w / 16777216 % 65536⟩
/-- the header of a word -/
def dH (w:Int):Option Hdr:=if vH (pH w)=true∧eH (pH w)=w then some (pH w) else none
theorem dH_some {w:Int} {h:Hdr} (hd:dH w=some h):vH h=true∧eH h=w:=by
 unfold dH at hd
 split at hd
 ·rename_i h1;cases hd;exact h1
 ·cases hd
theorem eH_bound {h:Hdr} (hv:vH h=true):0≤eH h∧eH h < 520093696:=by
 have:=vH_bound hv
 unfold eH
 omega
theorem eH_u64 {h:Hdr} (hv:vH h=true):U64 (eH h):=by
 have:=eH_bound hv
 unfold U64
 omega
/-- the size of an object -/
def wH (h:Hdr):Int:=if vH h=true then 2+max h.f 2 else 0
theorem wH_bound (h:Hdr):0≤wH h∧wH h≤32:=by
 unfold wH
 split
 ·rename_i hv;have:=vH_bound hv;omega
 ·omega
theorem wH_ge {h:Hdr} (hv:vH h=true):4≤wH h∧h.f+2≤wH h:=by
 unfold wH
 rw[if_pos hv]
 omega
structure Id where
 m:Int
 s:Int
 deriving DecidableEq
def Id.zero:Id:=⟨0,0⟩
def Id.val (i:Id):Value:=.agg #[.int .i64 i.m,.int .i64 i.s]
def vI (i:Id):Bool:=decide (1≤i.m∧i.m≤8∧1≤i.s∧i.s≤1099511627775)
def eI (i:Id):Int:=i.m*281474976710656+i.s
/-- the identity of a word; the zero identity if there is none -/
def dI (w:Int):Id:=if vI ⟨w / 281474976710656,w % 281474976710656⟩=true then ⟨w / 281474976710656,w % 281474976710656⟩ else Id.zero
theorem vI_iff (i:Id):vI i=true↔(1≤i.m∧i.m≤8∧1≤i.s∧i.s≤1099511627775):=by unfold vI;exact decide_eq_true_iff
theorem eI_u64 {i:Id} (h:vI i=true):U64 (eI i):=by
 have:=(vI_iff i).1 h
 unfold U64 eI
 omega
theorem vI_zero:vI Id.zero=false:=by decide
theorem dI_ne {w:Int} (h:dI w≠Id.zero):vI (dI w)=true:=by
 unfold dI at h ⊢
 split
 ·assumption
 ·rename_i h1;rw[if_neg h1] at h;exact absurd rfl h
theorem or_disj (j:Nat) (a b:Nat) (hb:b < 2 ^ j) (ha:a % 2 ^ j=0) (h:a < 18446744073709551616) (hb2:b < 18446744073709551616):bits .or .u64 (a:Int) (b:Int)=((a+b:Nat):Int):=by
 rw[bits_or_u64_nat a b h hb2]
 have:=Nat.two_pow_add_eq_or_of_lt hb (a / 2 ^ j)
 rw[Nat.mul_div_cancel' (Nat.dvd_of_mod_eq_zero ha)] at this
 rw[this]
theorem or_parts (f c k:Nat) (hf:f≤30) (hc:c≤60) (hk:k≤4):bits .or .u64 (bits .or .u64 (bits .or .u64 ((f:Int)*16777216) ((c:Int)*256)) ((k:Int)*4)) 3=3+4*(k:Int)+256*(c:Int)+16777216*(f:Int):=by
 have e1:=or_disj 24 (f*16777216) (c*256) (by omega) (by omega) (by omega) (by omega)
 have e2:=or_disj 8 (f*16777216+c*256) (k*4) (by omega) (by omega) (by omega) (by omega)
 have e3:=or_disj 2 (f*16777216+c*256+k*4) 3 (by omega) (by omega) (by omega) (by omega)
 have c1:((f*16777216:Nat):Int)=(f:Int)*16777216:=by simp
 have c2:((c*256:Nat):Int)=(c:Int)*256:=by simp
 have c3:((k*4:Nat):Int)=(k:Int)*4:=by simp
 rw[← c1,← c2,← c3,e1,e2]
 refine e3.trans ?_
 simp only[Int.natCast_add,Int.natCast_mul,Int.cast_ofNat_Int]
 omega
theorem and_mask (j:Nat) (hj:j≤16) {w:Int} (hw:U64 w):bits .and .u64 w (2 ^ j - 1)=w % 2 ^ j:=by
 obtain⟨m,rfl⟩:=Int.eq_ofNat_of_zero_le hw.1
 have hm:m < 18446744073709551616:=by have:=hw.2;omega
 have hp:2 ^ j≤2 ^ 16:=Nat.pow_le_pow_right (by omega) hj
 have hp2:(2:Nat) ^ 16=65536:=rfl
 rw[hp2] at hp
 have h1:=bits_and_u64_nat m (2 ^ j - 1) hm (by omega)
 have h2:((2 ^ j - 1:Nat):Int)=2 ^ j - 1:=by
  have:0 < 2 ^ j:=Nat.two_pow_pos j
  rw[Int.ofNat_sub this]
  simp
 rw[← h2,h1,Nat.and_two_pow_sub_one_eq_mod]
 simp
theorem and_63 {w:Int} (hw:U64 w):bits .and .u64 w 63=w % 64:=and_mask 6 (by omega) hw
theorem and_65535 {w:Int} (hw:U64 w):bits .and .u64 w 65535=w % 65536:=and_mask 16 (by omega) hw
theorem and_3 {w:Int} (hw:U64 w):bits .and .u64 w 3=w % 4:=and_mask 2 (by omega) hw
end
section
open Go.ChangeShapes Go.WideShapes Go.ChangeAt Go.RowKit Go.Deep
/-- the slice at A with n elements of s cells reads as xs, each in the way of R -/
def SlR {α:Type} (R:World→α→List Value→Prop) (w:World) (s:Nat) (A:Option Addr) (n:Nat) (xs:List α):Prop :=
 xs.length=n∧(n=0 ∨ ∃ b o,A=some ⟨b,o,none⟩∧b < w.heap.size∧∀ i x,xs[i]?=some x→∃ r:List Value,r.length=s∧R w x r∧∀ j v,r[j]?=some v→w.cell? ⟨b,o+i*s+j,none⟩=some v)
theorem SlR.nil {α:Type} (R:World→α→List Value→Prop) (w:World) (s:Nat) (A:Option Addr):SlR R w s A 0 []:=⟨rfl,.inl rfl⟩
theorem SlR.get {α:Type} {R:World→α→List Value→Prop} {w:World} {s n:Nat} {A:Option Addr} {xs:List α} (h:SlR R w s A n xs) {k:Nat} (hk:k < n) :
  ∃ b o x r,A=some ⟨b,o,none⟩∧b < w.heap.size∧xs[k]?=some x∧r.length=s∧R w x r∧∀ j v,r[j]?=some v→w.cell? ⟨b,o+k*s+j,none⟩=some v:=by
 rcases h.2 with h0 | ⟨b,o,hA,hb,hc⟩
 ·omega
 ·obtain⟨x,hx⟩:∃ x,xs[k]?=some x:=⟨_,List.getElem?_eq_getElem (by rw[h.1];exact hk)⟩
  obtain⟨r,h1,h2,h3⟩:=hc k x hx
  exact⟨b,o,x,r,hA,hb,hx,h1,h2,h3⟩
/-- every slice and string of a datum is within the reach -/
def Wgt {H:Type} (P:Program) (t:TypeId) (d:DataW H):Prop:=∀ n∈d.weights P t,n≤reachBytes
theorem weightsAll_mem {H:Type} {P:Program} {e:TypeId} {l:List (DataW H)} {d:DataW H} (hd:d∈l) {n:Nat} (hn:n∈d.weights P e):n∈DataW.weightsAll P e l:=by
 induction l with
 | nil=>cases hd
 | cons a r ih =>
  unfold DataW.weightsAll
  rcases List.mem_cons.1 hd with rfl | h
  ·exact List.mem_append_left _ hn
  ·exact List.mem_append_right _ (ih h)
theorem wgt_of {H:Type} {P:Program} {ts:List TypeId} {ds:List (DataW H)} (h:(DataW.weightsEach P ts ds).all (·≤reachBytes)=true) {j:Nat} {t:TypeId} {d:DataW H} (ht:ts[j]?=some t) (hd:ds[j]?=some d):Wgt P t d :=
 fun n hn=>by simpa using List.all_eq_true.1 h n (DataW.weights_mem_each ht hd n hn)
section
variable {H:Type} {enc:TypeId × Value→H} {w:World} {base:Nat} {spare:Nat→Bool} {held:Bool}
theorem spot_of_cell {a:Addr} {v:Value} (h:w.cell? a=some v):a=⟨a.block,a.off,none⟩:=by
 have:=World.cell?_spot h
 cases a
 simp_all
theorem choose_list {α:Type} {p:Nat→α→Prop}:∀ n,(∀ i,i < n→∃ x,p i x)→∃ l:List α,l.length=n∧∀ i x,l[i]?=some x→p i x
 | 0,_=>⟨[],rfl,fun i x h=>by cases h⟩
 | n+1,h=>by
  obtain⟨l,h1,h2⟩:=choose_list n (fun i hi=>h i (by omega))
  obtain⟨x,hx⟩:=h n (by omega)
  refine⟨l++[x],by simp[h1],fun i y hy=>?_⟩
  by_cases hi:i < n
  ·rw[List.getElem?_append_left (by omega)] at hy
   exact h2 i y hy
  ·have hin:i=n:=by
    have:=(List.getElem?_eq_some_iff.1 hy).1
    simp[h1] at this
    omega
   subst hin
   rw[List.getElem?_append_right (by omega),h1] at hy
   simp at hy
   exact hy ▸ hx
/-- a slice of instructions reads as a code -/
theorem open_slR {α:Type} (R:World→α→List Value→Prop) {t e:TypeId} {s bt:Nat} (ht:Tryz.prog.underlying t=some (.slice e)) (hs:Tryz.prog.cellsOf e=s) (hbt:Tryz.prog.bytesOf e=bt) (hb1:1≤bt) (hs0:1≤s)
  (hR:∀ fuel cs x,cs.length=s→DataW.trod enc Tryz.prog w base spare held fuel e cs=some x→Wgt Tryz.prog e x.1→∃ y,R w y cs)
  {fuel:Nat} {v:Value} {x:DataW H × List MemPlace} (h:DataW.trod enc Tryz.prog w base spare held fuel t [v]=some x) (hw:Wgt Tryz.prog t x.1) :
  ∃ A n c,v=.slice A n c∧n≤c∧n≤140737488351232∧∃ xs:List α,SlR R w s A n xs:=by
 rcases open_slice ht h with ⟨h0,_⟩ | ⟨a,len,cap,m,n,D,Pl,hcs,hb,hl,hm,hmm,hx,hi⟩
 ·simp only[List.cons.injEq,and_true] at h0
  subst h0
  exact⟨none,0,0,rfl,Nat.le_refl _,by omega,[],SlR.nil _ _ _ _⟩
 ·simp only[List.cons.injEq,and_true] at hcs
  subst hcs
  have hml:len≤m:=by rw[hmm];split <;> omega
  rw[hx] at hw
  have hlen:len≤140737488351232:=by
   have:=hw ((len+(m - len))*bt) (by simp[DataW.weights,ht,hbt])
   simp only[reachBytes] at this
   have h2:(len+(m - len))*1≤(len+(m - len))*bt:=Nat.mul_le_mul_left _ hb1
   omega
  refine⟨some a,len,cap,rfl,hl,hlen,?_⟩
  obtain⟨l,hl1,hp⟩:=choose_list (α:=α × List Value) (p:=fun i y=>y.2.length=s∧R w y.1 y.2∧∀ j v,y.2[j]?=some v→w.cell? (a.add (i*s+j))=some v) len (fun i hil=>by
   obtain⟨cs',hc,htr⟩:=hi i (by omega)
   rw[hs] at hc
   obtain⟨_,hcl,hat⟩:=World.cells?_some hc
   have hwi:Wgt Tryz.prog e (D i,Pl i).1:=fun n hn=>hw n (by
    simp only[DataW.weights,ht]
    refine List.mem_cons_of_mem _ (List.mem_append_left _ (weightsAll_mem (d:=D i) ?_ hn))
    exact List.mem_map.2 ⟨i,by simpa using hil,rfl⟩)
   obtain⟨y,hy⟩:=hR n cs' _ hcl htr hwi
   refine⟨(y,cs'),hcl,hy,fun j v hv=>?_⟩
   have hj:j < s:=by
    have:=(List.getElem?_eq_some_iff.1 hv).1
    rw[hcl] at this
    exact this
   have g:=hat j hj
   rw[Go.Deep.add_add] at g
   rw[← hv]
   simpa using g)
  refine⟨l.map (·.1),by simp[hl1],?_⟩
  rcases Nat.eq_zero_or_pos len with h0 | h0
  ·exact .inl h0
  ·focus
    obtain⟨y0,hy0⟩:∃ y,l[0]?=some y:=⟨_,List.getElem?_eq_getElem (by omega)⟩
    obtain⟨q1,q2,q3⟩:=hp 0 y0 hy0
    obtain⟨v0,hv0⟩:∃ v,y0.2[0]?=some v:=⟨_,List.getElem?_eq_getElem (by omega)⟩
    have q0:=q3 0 v0 hv0
    have ea:a=⟨a.block,a.off,none⟩:=by
     have:=spot_of_cell q0
     simpa [Addr.add] using this
    have eadd:∀ n,a.add n=⟨a.block,a.off+n,none⟩:=fun n=>by
     unfold Addr.add
     split
     ·rename_i h;subst h;exact ea
     ·rfl
    refine .inr ⟨a.block,a.off,by rw[← ea],?_,fun i x hx=>?_⟩
    ·have:=cell_lt q0
     rw[eadd] at this
     exact this
    ·obtain⟨y,hy,rfl⟩:∃ y,l[i]?=some y∧y.1=x:=by simpa using hx
     obtain⟨r1,r2,r3⟩:=hp i y hy
     refine⟨y.2,r1,r2,fun j v hv=>?_⟩
     have:=r3 j v hv
     rw[eadd] at this
     rw[Nat.add_assoc]
     exact this
theorem SlR.all {α:Type} {R:World→α→List Value→Prop} {s n:Nat} {A:Option Addr} {xs:List α} (h:SlR R w s A n xs) {P:α→Prop} (hP:∀ x r,R w x r→P x):∀ x∈xs,P x:=fun x hx=>by
 obtain⟨i,hi⟩:=List.mem_iff_getElem?.1 hx
 have hil:=(List.getElem?_eq_some_iff.1 hi).1
 obtain⟨b,o,y,r,_,_,hy,_,hR,_⟩:=h.get (k:=i) (by rw[← h.1];exact hil)
 rw[hi] at hy
 cases hy
 exact hP _ _ hR
end
theorem cellsHdr:Tryz.prog.cellsOf 58=3:=by kernel_rfl
theorem cellsInt:Tryz.prog.cellsOf 3=1:=by kernel_rfl
theorem cellsU8:Tryz.prog.cellsOf 5=1:=by kernel_rfl
theorem cellsU64:Tryz.prog.cellsOf 54=1:=by kernel_rfl
theorem cellsBool:Tryz.prog.cellsOf 4=1:=by kernel_rfl
theorem wf_i64b {x:Int} (h:(Lit.int .i64 x).wf=true):-9223372036854775808≤x∧x≤9223372036854775807:=by
 simp[Lit.wf,IntKind.min,IntKind.max,IntKind.signed,IntKind.bits] at h
 omega
section
variable {H:Type} {enc:TypeId × Value→H} {w:World} {base:Nat} {spare:Nat→Bool} {held:Bool}
theorem open_hdr {fuel:Nat} {cs:List Value} {x:DataW H × List MemPlace} (h:DataW.trod enc Tryz.prog w base spare held fuel 58 cs=some x):∃ hd:Hdr,cs=[.int .i64 hd.k,.int .i64 hd.c,.int .i64 hd.f]:=by
 obtain⟨xs,n,_,_,hlen,hxl,hg⟩:=DataW.trod_struct Tryz.underlying58 h
 rw[cellsHdr] at hlen
 match cs,hlen with
 | [u0,u1,u2],_ =>
  match xs,hxl with
  | [y0,y1,y2],_ =>
   have h0:DataW.trod enc Tryz.prog w base spare held n 3 (([u0,u1,u2].drop 0).take (Tryz.prog.cellsOf 3))=some y0:=hg 0 _ rfl
   have h1:DataW.trod enc Tryz.prog w base spare held n 3 (([u0,u1,u2].drop 1).take (Tryz.prog.cellsOf 3))=some y1:=hg 1 _ rfl
   have h2:DataW.trod enc Tryz.prog w base spare held n 3 (([u0,u1,u2].drop 2).take (Tryz.prog.cellsOf 3))=some y2:=hg 2 _ rfl
   rw[cellsInt] at h0 h1 h2
   obtain⟨a,e0,_,w0⟩:=DataW.trod_int Tryz.underlying3 (show DataW.trod enc Tryz.prog w base spare held n 3 [u0]=some y0 from h0)
   obtain⟨b,e1,_,w1⟩:=DataW.trod_int Tryz.underlying3 (show DataW.trod enc Tryz.prog w base spare held n 3 [u1]=some y1 from h1)
   obtain⟨c,e2,_,w2⟩:=DataW.trod_int Tryz.underlying3 (show DataW.trod enc Tryz.prog w base spare held n 3 [u2]=some y2 from h2)
   simp only[List.cons.injEq,and_true] at e0 e1 e2
   subst e0 e1 e2
   exact⟨⟨a,b,c⟩,rfl⟩
end
end
section
structure Spc where
 base:Int
 limit:Int
 ws:List Int
def Spc.top (s:Spc):Int:=s.base+s.ws.length
def Spc.has (s:Spc) (a:Int):Bool:=decide (s.base≤a∧a < s.base+s.ws.length)
/-- the word at an address -/
def Spc.at_ (s:Spc) (a:Int):Option Int:=if s.has a=true then s.ws[(a - s.base).toNat]? else none
def Spc.put (s:Spc) (a x:Int):Spc:=if s.has a=true then { s with ws:=s.ws.set (a - s.base).toNat x } else s
/-- what every space keeps -/
structure Spc.Ok (s:Spc):Prop where
 u:∀ x∈s.ws,U64 x
 b0:0≤s.base
 lim:s.base+s.ws.length≤s.limit
 l0:s.limit≤4294967296
theorem Spc.has_iff {s:Spc} {a:Int}:s.has a=true↔(s.base≤a∧a < s.base+s.ws.length):=by unfold Spc.has;exact decide_eq_true_iff
theorem Spc.at_some {s:Spc} {a:Int} (h:s.has a=true):∃ i:Nat,(i:Int)=a - s.base∧i < s.ws.length∧∃ x,s.ws[i]?=some x∧s.at_ a=some x:=by
 obtain⟨h0,h1⟩:=of_decide_eq_true h
 refine⟨(a - s.base).toNat,by omega,by omega,s.ws[(a - s.base).toNat]'(by omega),List.getElem?_eq_getElem _,?_⟩
 unfold Spc.at_
 rw[if_pos h]
 exact List.getElem?_eq_getElem _
theorem Spc.at_none {s:Spc} {a:Int} (h:s.has a=false):s.at_ a=none:=by
 unfold Spc.at_
 rw[if_neg (by rw[h];simp)]
theorem Spc.at_has {s:Spc} {a x:Int} (h:s.at_ a=some x):s.has a=true:=by
 cases hh:s.has a with
 | true=>rfl
 | false=>rw[Spc.at_none hh] at h;cases h
theorem Spc.Ok.at_u {s:Spc} (h:s.Ok) {a x:Int} (hx:s.at_ a=some x):U64 x:=by
 obtain⟨i,_,_,y,hy,h2⟩:=Spc.at_some (Spc.at_has hx)
 rw[h2] at hx
 cases hx
 exact h.u _ (List.mem_of_getElem? hy)
theorem Spc.put_base (s:Spc) (a x:Int):(s.put a x).base=s.base:=by unfold Spc.put;split <;> rfl
theorem Spc.put_limit (s:Spc) (a x:Int):(s.put a x).limit=s.limit:=by unfold Spc.put;split <;> rfl
theorem Spc.put_len (s:Spc) (a x:Int):(s.put a x).ws.length=s.ws.length:=by unfold Spc.put;split <;> simp
theorem Spc.Ok.put {s:Spc} (h:s.Ok) (a:Int) {x:Int} (hx:U64 x):(s.put a x).Ok:=by
 refine⟨fun y hy=>?_,by rw[Spc.put_base];exact h.b0,by rw[Spc.put_base,Spc.put_len,Spc.put_limit];exact h.lim,by rw[Spc.put_limit];exact h.l0⟩
 unfold Spc.put at hy
 split at hy
 ·rcases List.mem_or_eq_of_mem_set hy with h1 | h1
  ·exact h.u y h1
  ·rw[h1];exact hx
 ·exact h.u y hy
/-- the error and the header of the object at an address -/
def Spc.hdr (s:Spc) (a:Int):Int × Hdr:=match s.at_ a with
 | none=>(2,Hdr.zero)
 | some x=>match dH x,s.at_ (a+1) with
  | some h,some v=>if dI v=Id.zero ∨ s.has (a+wH h - 1)=false then (11,Hdr.zero) else (0,h)
  | _,_=>(11,Hdr.zero)
theorem Spc.hdr_none {s:Spc} {a:Int} (h:s.has a=false):s.hdr a=(2,Hdr.zero):=by unfold Spc.hdr;rw[Spc.at_none h]
theorem Spc.hdr_ok {s:Spc} {a:Int} (h:(s.hdr a).1=0):∃ x v,s.at_ a=some x∧dH x=some (s.hdr a).2∧s.at_ (a+1)=some v∧dI v≠Id.zero∧s.has (a+wH (s.hdr a).2 - 1)=true:=by
 unfold Spc.hdr at h ⊢
 split at h
 ·cases h
 ·rename_i x hx
  split at h
  ·rename_i hd v h1 h2
   split at h
   ·cases h
   ·rename_i hn
    have hn':=not_or.1 hn
    simp only[h1,h2]
    rw[if_neg hn]
    exact⟨x,v,hx,h1,rfl,hn'.1,by simpa using hn'.2⟩
  ·cases h
theorem Spc.hdr_err {s:Spc} {a:Int} (h:(s.hdr a).1≠0):(s.hdr a).2=Hdr.zero:=by
 unfold Spc.hdr at h ⊢
 split
 ·rfl
 ·split
  ·split
   ·rfl
   ·rename_i hn
    exact absurd (by simp_all) h
  ·rfl
/-- a space behind an allocation, with its error and the address -/
def Spc.alloc (s:Spc) (h:Hdr) (i:Id):Int × Spc × Int :=
 if vH h=false ∨ vI i=false then (1,s,0)
 else if wH h > s.limit - s.top then (8,s,0)
 else (0,{ s with ws:=s.ws++([eH h,eI i]++List.replicate (wH h - 2).toNat 0) },s.top)
/-- the size of the sound object at an index of a word, or 0 -/
def Spc.size (s:Spc) (i:Nat):Nat:=match s.ws[i]?,s.ws[i+1]? with
 | some x,some v=>match dH x with
  | some h=>if dI v≠Id.zero∧i+wH h≤s.ws.length then (wH h).toNat else 0
  | none=>0
 | _,_=>0
theorem Spc.size_le (s:Spc) (i:Nat):s.size i=0 ∨ (4≤s.size i∧i+s.size i≤s.ws.length∧s.size i≤32):=by
 unfold Spc.size
 split
 ·split
  ·rename_i h hd
   split
   ·have:=wH_ge (dH_some hd).1
    have:=wH_bound h
    omega
   ·exact .inl rfl
  ·exact .inl rfl
 ·exact .inl rfl
/-- the indexes of the objects that a walk from an index on reaches, and the index where it ends -/
def Spc.walkN (s:Spc):Nat→Nat→List Nat × Nat
 | 0,i=>([],i)
 | f+1,i=>if s.size i=0 then ([],i) else (i::(s.walkN f (i+s.size i)).1,(s.walkN f (i+s.size i)).2)
def Spc.walk (s:Spc):List Nat × Nat:=s.walkN s.ws.length 0
def Spc.objs (s:Spc):List Int:=s.walk.1.map fun(i:Nat)=>s.base+(i:Int)
def Spc.wend (s:Spc):Int:=s.base+s.walk.2
theorem Spc.walkN_fuel (s:Spc):∀ f f' i,s.ws.length≤i+f→s.ws.length≤i+f'→s.walkN f i=s.walkN f' i
 | 0,0,_,_,_=>rfl
 | 0,f'+1,i,h,h'=>by
  have:=s.size_le i
  unfold Spc.walkN
  rw[if_pos (by omega)]
 | f+1,0,i,h,h'=>by
  have:=s.size_le i
  unfold Spc.walkN
  rw[if_pos (by omega)]
 | f+1,f'+1,i,h,h'=>by
  unfold Spc.walkN
  split
  ·rfl
  ·rename_i h0
   have:=s.size_le i
   rw[Spc.walkN_fuel s f f' (i+s.size i) (by omega) (by omega)]
/-- the walk from an index on -/
def Spc.walkFrom (s:Spc) (i:Nat):List Nat × Nat:=s.walkN s.ws.length i
theorem Spc.walkFrom_zero (s:Spc) {i:Nat} (h:s.size i=0):s.walkFrom i=([],i):=by
 unfold Spc.walkFrom
 rw[Spc.walkN_fuel s _ (s.ws.length+1) i (by omega) (by omega)]
 unfold Spc.walkN
 rw[if_pos h]
theorem Spc.walkFrom_pos (s:Spc) {i:Nat} (h:s.size i≠0):s.walkFrom i=(i::(s.walkFrom (i+s.size i)).1,(s.walkFrom (i+s.size i)).2):=by
 conv=>lhs;unfold Spc.walkFrom;rw[Spc.walkN_fuel s _ (s.ws.length+1) i (by omega) (by omega)];unfold Spc.walkN
 rw[if_neg h]
 rfl
/-- a memory -/
structure Mm where
 old:Spc
 yng:Spc
structure Mm.Ok (m:Mm):Prop where
 o:m.old.Ok
 y:m.yng.Ok
 ob:m.old.base=0
 ol:m.old.limit≤16777216
 yb:m.yng.base=16777216
/-- the space of an address -/
def Mm.sp (m:Mm) (a:Int):Spc:=if m.old.has a=true then m.old else m.yng
def Mm.at_ (m:Mm) (a:Int):Option Int:=(m.sp a).at_ a
def Mm.hdr (m:Mm) (a:Int):Int × Hdr:=(m.sp a).hdr a
def Mm.put (m:Mm) (a x:Int):Mm:=if m.old.has a=true then { m with old:=m.old.put a x } else { m with yng:=m.yng.put a x }
def Mm.has (m:Mm) (a:Int):Bool:=(m.sp a).has a
/-- the error of an access to a field -/
def Mm.fldE (m:Mm) (a i:Int):Int :=
 if (m.hdr a).1≠0 then (m.hdr a).1 else if (m.hdr a).2.k=3 ∨ (m.hdr a).2.k=4 then 7 else if i < 0 ∨ (m.hdr a).2.f≤i then 2 else 0
/-- the space that the program looks into -/
def Mm.sp2 (m:Mm) (a:Int):Spc:=if 16777216≤a then m.yng else m.old
theorem Mm.Ok.old_lt {m:Mm} (h:m.Ok) {a:Int} (ha:m.old.has a=true):0≤a∧a < 16777216:=by
 have:=Spc.has_iff.1 ha
 have h1:=h.o.lim
 have h2:=h.ob
 have h3:=h.ol
 omega
theorem Mm.Ok.yng_ge {m:Mm} (h:m.Ok) {a:Int} (ha:m.yng.has a=true):16777216≤a∧a < 4294967296:=by
 have:=Spc.has_iff.1 ha
 have h1:=h.y.lim
 have h2:=h.yb
 have h3:=h.y.l0
 omega
/-- the two ways to choose the space agree on what they find -/
theorem Mm.Ok.sp2 {m:Mm} (h:m.Ok) (a:Int):m.sp2 a=m.sp a ∨ ((m.sp2 a).has a=false∧(m.sp a).has a=false):=by
 unfold Mm.sp2 Mm.sp
 by_cases ho:m.old.has a=true
 ·have:=h.old_lt ho
  rw[if_neg (by omega),if_pos ho]
  exact .inl rfl
 ·rw[if_neg ho]
  by_cases hy:16777216≤a
  ·rw[if_pos hy]
   exact .inl rfl
  ·rw[if_neg hy]
   refine .inr ⟨by simpa using ho,?_⟩
   cases hh:m.yng.has a with
   | false=>rfl
   | true=>have:=h.yng_ge hh;omega
theorem Mm.Ok.sp2_at {m:Mm} (h:m.Ok) (a:Int):(m.sp2 a).at_ a=m.at_ a:=by
 unfold Mm.at_
 rcases h.sp2 a with e | ⟨e1,e2⟩
 ·rw[e]
 ·rw[Spc.at_none e1,Spc.at_none e2]
theorem Mm.Ok.sp2_hdr {m:Mm} (h:m.Ok) (a:Int):(m.sp2 a).hdr a=m.hdr a:=by
 unfold Mm.hdr
 rcases h.sp2 a with e | ⟨e1,e2⟩
 ·rw[e]
 ·rw[Spc.hdr_none e1,Spc.hdr_none e2]
theorem Mm.Ok.sp2_has {m:Mm} (h:m.Ok) (a:Int):(m.sp2 a).has a=m.has a:=by
 unfold Mm.has
 rcases h.sp2 a with e | ⟨e1,e2⟩
 ·rw[e]
 ·rw[e1,e2]
theorem Mm.Ok.sp2_put {m:Mm} (h:m.Ok) (a x:Int):(if 16777216≤a then { m with yng:=m.yng.put a x } else { m with old:=m.old.put a x })=m.put a x:=by
 unfold Mm.put
 by_cases ho:m.old.has a=true
 ·have:=h.old_lt ho
  rw[if_neg (by omega),if_pos ho]
 ·rw[if_neg ho]
  by_cases hy:16777216≤a
  ·rw[if_pos hy]
  ·rw[if_neg hy]
   have hyy:m.yng.has a=false:=by
    cases hh:m.yng.has a with
    | false=>rfl
    | true=>have:=h.yng_ge hh;omega
   unfold Spc.put
   rw[if_neg ho,if_neg (by rw[hyy];simp)]
theorem Mm.Ok.at_u {m:Mm} (h:m.Ok) {a x:Int} (hx:m.at_ a=some x):U64 x:=by
 unfold Mm.at_ Mm.sp at hx
 split at hx
 ·exact h.o.at_u hx
 ·exact h.y.at_u hx
theorem Mm.Ok.put {m:Mm} (h:m.Ok) (a:Int) {x:Int} (hx:U64 x):(m.put a x).Ok:=by
 unfold Mm.put
 split
 ·exact⟨h.o.put a hx,h.y,by rw[Spc.put_base];exact h.ob,by rw[Spc.put_limit];exact h.ol,h.yb⟩
 ·exact⟨h.o,h.y.put a hx,h.ob,h.ol,by rw[Spc.put_base];exact h.yb⟩
end
section
open Go.RowKit Go.Sort
theorem ret_ib {k:IntKind} {a b:Int} {c:Bool} (h:a=b):Ending.returned (.tuple #[.int k a,.bool c])=.returned (.tuple #[.int k b,.bool c]):=by rw[h]
/-- the kind of a word -/
def kW (x:Int):Int:=if x=0 then 0 else if x % 4=1 then 1 else if x % 4=2∧x / 4≤4294967295 then 2 else if x % 4=3 then 3 else -1
theorem Kind_any {x:Int} (hx:U64 x) (w:World):Calls Tryz.prog 121 #[.int .u64 x] w fun e w'=>e=.returned (.int .i64 (kW x))∧w=w':=by
 have ha:=and_3 hx
 have h4:x % 4=0 ∨ x % 4=1 ∨ x % 4=2 ∨ x % 4=3:=by omega
 have hb:=hx.1
 have hu:=hx.2
 rcases h4 with h | h | h | h
 ·rw[h] at ha
  by_cases h0:x=0
  ·subst h0
   go_enter Tryz.func121,Tryz.ntmps121
   go_wp2_with fail
   go_ret
   exact⟨rfl,rfl⟩
  ·have hn:(x == 0)=false:=by simpa using h0
   have hk:Hid (kW x=-1):=lh (by unfold kW;rw[if_neg h0,if_neg (by omega),if_neg (by omega),if_neg (by omega)])
   clear h h0
   go_enter Tryz.func121,Tryz.ntmps121
   go_wp2_with fail
   go_ret
   exact⟨ret_int hk.out.symm,rfl⟩
 ·rw[h] at ha
  have hk:Hid (kW x=1):=lh (by unfold kW;rw[if_neg (by omega),if_pos h])
  clear h
  go_enter Tryz.func121,Tryz.ntmps121
  go_wp2_with fail
  go_ret
  exact⟨ret_int hk.out.symm,rfl⟩
 ·rw[h] at ha
  by_cases hl:x / 4≤4294967295
  ·have hk:Hid (kW x=2):=lh (by unfold kW;rw[if_neg (by omega),if_neg (by omega),if_pos ⟨h,hl⟩])
   clear h
   go_enter Tryz.func121,Tryz.ntmps121
   go_wp2_with fail
   go_ret
   exact⟨ret_int hk.out.symm,rfl⟩
  ·have hk:Hid (kW x=-1):=lh (by unfold kW;rw[if_neg (by omega),if_neg (by omega),if_neg (by omega),if_neg (by omega)])
   clear h
   go_enter Tryz.func121,Tryz.ntmps121
   go_wp2_with fail
   go_ret
   exact⟨ret_int hk.out.symm,rfl⟩
 ·rw[h] at ha
  have hk:Hid (kW x=3):=lh (by unfold kW;rw[if_neg (by omega),if_neg (by omega),if_neg (by omega),if_pos h])
  clear h
  go_enter Tryz.func121,Tryz.ntmps121
  go_wp2_with fail
  go_ret
  exact⟨ret_int hk.out.symm,rfl⟩
theorem kW_two (x:Int):kW x=2↔(adr x).isSome=true:=by
 unfold kW adr
 by_cases h0:x=0
 ·subst h0;simp
 ·rw[if_neg h0]
  by_cases h1:x % 4=1
  ·rw[if_pos h1,if_neg (by omega)];simp
  ·rw[if_neg h1]
   by_cases h2:x % 4=2∧x / 4≤4294967295
   ·rw[if_pos h2,if_pos h2];simp
   ·rw[if_neg h2,if_neg h2]
    split <;> simp
def adrV (x:Int):Value:=match adr x with | some a=>.tuple #[.int .i64 a,.bool true] | none=>.tuple #[.int .i64 0,.bool false]
theorem Address_any {x:Int} (hx:U64 x) (w:World):Calls Tryz.prog 105 #[.int .u64 x] w fun e w'=>e=.returned (adrV x)∧w=w':=by
 have hb:=hx.1
 have hu:=hx.2
 have cK:=Kind_any hx w
 unfold adrV
 cases h:adr x with
 | none =>
  have hk:kW x≠2:=fun h2=>by have:=(kW_two x).1 h2;rw[h] at this;cases this
  obtain⟨k,hkk⟩:∃ k,k=kW x:=⟨_,rfl⟩
  rw[← hkk] at hk cK
  have hkb:(k == 2)=false:=by simpa using hk
  clear hkk hk h
  go_enter Tryz.func105,Tryz.ntmps105
  go_wp2_with fail
  refine cK.mono ?_
  rintro e w' ⟨rfl,rfl⟩
  go_wp2_with fail
  go_ret2
  exact⟨rfl,rfl⟩
 | some a =>
  have hk:kW x=2:=(kW_two x).2 (by rw[h];rfl)
  have ha:Hid (x / 4=a):=lh (by unfold adr at h;split at h <;> simp_all)
  rw[hk] at cK
  clear hk h
  go_enter Tryz.func105,Tryz.ntmps105
  go_wp2_with fail
  refine cK.mono ?_
  rintro e w' ⟨rfl,rfl⟩
  go_wp2_with fail
  go_ret2
  exact⟨ret_ib ha.out,rfl⟩
theorem RAddress_any {x:Int} (hx:U64 x) (w:World):Calls Tryz.prog 63 #[.int .u64 x] w fun e w'=>e=.returned (adrV x)∧w=w':=by
 have hb:=hx.1
 have hu:=hx.2
 unfold adrV
 cases h:adr x with
 | none =>
  unfold adr at h
  split at h
  ·cases h
  ·rename_i h2
   by_cases h1:x % 4=2
   ·have hl:4294967295 < x / 4:=by omega
    have h3:(x % 4 != 2)=false:=by simp[h1]
    clear h h1 h2
    go_enter Tryz.func63,Tryz.ntmps63
    go_wp2_with fail
    go_ret2
    exact⟨rfl,rfl⟩
   ·have h3:(x % 4 != 2)=true:=by simpa using h1
    clear h h1 h2
    go_enter Tryz.func63,Tryz.ntmps63
    go_wp2_with fail
    go_ret2
    exact⟨rfl,rfl⟩
 | some a =>
  unfold adr at h
  split at h
  ·rename_i h2
   have ha:Hid (x / 4=a):=lh (by injection h)
   have h3:(x % 4 != 2)=false:=by simp[h2.1]
   have hl:x / 4≤4294967295:=h2.2
   clear h h2
   go_enter Tryz.func63,Tryz.ntmps63
   go_wp2_with fail
   go_ret2
   exact⟨ret_ib ha.out,rfl⟩
  ·cases h
/-- whether a word is a young reference -/
def ygW (x:Int):Bool:=match adr x with | some a=>decide (16777216≤a) | none=>false
theorem young_any {x:Int} (hx:U64 x) (w:World):Calls Tryz.prog 120 #[.int .u64 x] w fun e w'=>e=.returned (.bool (ygW x))∧w=w':=by
 have cA:=Address_any hx w
 unfold adrV at cA
 cases h:adr x with
 | none =>
  have hy:Hid (ygW x=false):=lh (by unfold ygW;rw[h])
  simp only[h] at cA
  clear h
  go_enter Tryz.func120,Tryz.ntmps120
  go_wp2_with fail
  refine cA.mono ?_
  rintro e w' ⟨rfl,rfl⟩
  go_wp2_with fail
  go_ret
  exact⟨ret_bool hy.out.symm,rfl⟩
 | some a =>
  have hy:Hid (ygW x=decide (16777216≤a)):=lh (by unfold ygW;rw[h])
  simp only[h] at cA
  clear h
  go_enter Tryz.func120,Tryz.ntmps120
  go_wp2_with fail
  refine cA.mono ?_
  rintro e w' ⟨rfl,rfl⟩
  go_wp2_with fail
  go_ret
  exact⟨ret_bool hy.out.symm,rfl⟩
theorem Young_any {x:Int} (hx:U64 x) (w:World):Calls Tryz.prog 29 #[.int .u64 x] w fun e w'=>e=.returned (.bool (ygW x))∧w=w':=by
 have cA:=RAddress_any hx w
 unfold adrV at cA
 cases h:adr x with
 | none =>
  have hy:Hid (ygW x=false):=lh (by unfold ygW;rw[h])
  simp only[h] at cA
  clear h
  go_enter Tryz.func29,Tryz.ntmps29
  go_wp2_with fail
  refine cA.mono ?_
  rintro e w' ⟨rfl,rfl⟩
  go_wp2_with fail
  go_ret
  exact⟨ret_bool hy.out.symm,rfl⟩
 | some a =>
  have hy:Hid (ygW x=decide (16777216≤a)):=lh (by unfold ygW;rw[h])
  simp only[h] at cA
  clear h
  go_enter Tryz.func29,Tryz.ntmps29
  go_wp2_with fail
  refine cA.mono ?_
  rintro e w' ⟨rfl,rfl⟩
  go_wp2_with fail
  go_ret
  exact⟨ret_bool hy.out.symm,rfl⟩
def inA (a:Int):Bool:=decide (0≤a∧a≤4294967295)
def frA (a:Int):Value:=if inA a=true then .tuple #[.int .u64 (adW a),.int .i64 0] else .tuple #[.int .u64 0,.int .i64 2]
theorem ret_uu {k k':IntKind} {a b c:Int} (h:a=b):Ending.returned (.tuple #[.int k a,.int k' c])=.returned (.tuple #[.int k b,.int k' c]):=by rw[h]
theorem or_two (m:Nat) (h:m≤4294967295):bits .or .u64 ((m:Int)*4) 2=adW m:=by
 have e:=or_disj 2 (m*4) 2 (by omega) (by omega) (by omega) (by omega)
 have c:((m*4:Nat):Int)=(m:Int)*4:=by simp
 rw[← c]
 refine e.trans ?_
 unfold adW
 simp only[Int.natCast_add,Int.natCast_mul,Int.cast_ofNat_Int]
 omega
theorem FromAddress_any (a:Int) (w:World):Calls Tryz.prog 59 #[.int .i64 a] w fun e w'=>e=.returned (frA a)∧w=w':=by
 unfold frA
 cases h:inA a with
 | true =>
  rw[if_pos rfl]
  obtain⟨h0,h1⟩:=of_decide_eq_true h
  obtain⟨m,rfl⟩:=Int.eq_ofNat_of_zero_le h0
  have ho:=or_two m (by omega)
  clear h
  go_enter Tryz.func59,Tryz.ntmps59
  go_wp2_with fail
  go_ret2
  exact⟨rfl,rfl⟩
 | false =>
  rw[if_neg (by simp)]
  have h1:=of_decide_eq_false h
  clear h
  by_cases h2:a < 0
  ·clear h1
   go_enter Tryz.func59,Tryz.ntmps59
   go_wp2_with fail
   go_ret2
   exact⟨rfl,rfl⟩
  ·have h3:4294967295 < a:=by omega
   clear h1
   go_enter Tryz.func59,Tryz.ntmps59
   go_wp2_with fail
   go_ret2
   exact⟨rfl,rfl⟩
theorem RFromAddress_any (a:Int) (w:World):Calls Tryz.prog 19 #[.int .i64 a] w fun e w'=>e=.returned (frA a)∧w=w':=by
 unfold frA
 cases h:inA a with
 | true =>
  rw[if_pos rfl]
  obtain⟨h0,h1⟩:=of_decide_eq_true h
  have ha:Hid (a*4+2=adW a):=lh (by unfold adW;omega)
  clear h
  go_enter Tryz.func19,Tryz.ntmps19
  go_wp2_with fail
  go_ret2
  exact⟨ret_uu ha.out,rfl⟩
 | false =>
  rw[if_neg (by simp)]
  have h1:=of_decide_eq_false h
  clear h
  by_cases h2:a < 0
  ·clear h1
   go_enter Tryz.func19,Tryz.ntmps19
   go_wp2_with fail
   go_ret2
   exact⟨rfl,rfl⟩
  ·have h3:4294967295 < a:=by omega
   clear h1
   go_enter Tryz.func19,Tryz.ntmps19
   go_wp2_with fail
   go_ret2
   exact⟨rfl,rfl⟩
def oldB (a:Int):Bool:=decide (0≤a∧a < 16777216)
theorem old_any (a:Int) (w:World):Calls Tryz.prog 96 #[.int .i64 a] w fun e w'=>e=.returned (.bool (oldB a))∧w=w':=by
 by_cases h0:0≤a
 ·by_cases h1:a < 16777216
  ·have hk:Hid (oldB a=true):=lh (decide_eq_true ⟨h0,h1⟩)
   go_enter Tryz.func96,Tryz.ntmps96
   go_wp2_with fail
   go_ret
   exact⟨ret_bool hk.out.symm,rfl⟩
  ·have hk:Hid (oldB a=false):=lh (decide_eq_false (by omega))
   go_enter Tryz.func96,Tryz.ntmps96
   go_wp2_with fail
   go_ret
   exact⟨ret_bool hk.out.symm,rfl⟩
 ·have hk:Hid (oldB a=false):=lh (decide_eq_false (by omega))
  have h1:a < 0:=by omega
  go_enter Tryz.func96,Tryz.ntmps96
  go_wp2_with fail
  go_ret
  exact⟨ret_bool hk.out.symm,rfl⟩
theorem ROld_any (a:Int) (w:World):Calls Tryz.prog 107 #[.int .i64 a] w fun e w'=>e=.returned (.bool (oldB a))∧w=w':=by
 by_cases h0:0≤a
 ·by_cases h1:a < 16777216
  ·have hk:Hid (oldB a=true):=lh (decide_eq_true ⟨h0,h1⟩)
   go_enter Tryz.func107,Tryz.ntmps107
   go_wp2_with fail
   go_ret
   exact⟨ret_bool hk.out.symm,rfl⟩
  ·have hk:Hid (oldB a=false):=lh (decide_eq_false (by omega))
   go_enter Tryz.func107,Tryz.ntmps107
   go_wp2_with fail
   go_ret
   exact⟨ret_bool hk.out.symm,rfl⟩
 ·have hk:Hid (oldB a=false):=lh (decide_eq_false (by omega))
  have h1:a < 0:=by omega
  go_enter Tryz.func107,Tryz.ntmps107
  go_wp2_with fail
  go_ret
  exact⟨ret_bool hk.out.symm,rfl⟩
end
section
/-- stores of a list of words from an address on -/
def Mm.puts (m:Mm) (a:Int):List Int→Mm
 | []=>m
 | x::l=>(m.put a x).puts (a+1) l
theorem Mm.puts_snoc (x:Int):∀ (l:List Int) (m:Mm) (a:Int),m.puts a (l++[x])=(m.puts a l).put (a+(l.length:Int)) x
 | [],m,a=>by simp[Mm.puts]
 | y::l,m,a=>by
  simp only[List.cons_append,Mm.puts,List.length_cons]
  rw[Mm.puts_snoc x l (m.put a y) (a+1)]
  congr 1
  push_cast
  omega
/-- n words, the first of them those of a list -/
def padW (n:Nat) (pl:List Int):List Int:=(List.range n).map fun i=>pl.getD i 0
theorem padW_length (n:Nat) (pl:List Int):(padW n pl).length=n:=by simp[padW]
theorem padW_take (n:Nat) (pl:List Int) (k:Nat) (h:k < n):(padW n pl).take (k+1)=(padW n pl).take k++[pl.getD k 0]:=by
 rw[List.take_succ_eq_append_getElem (by simpa [padW] using h)]
 simp[padW]
/-- the memory in which an object has another kind and payload -/
def Mm.write (m:Mm) (a kind:Int) (pl:List Int):Mm :=
 (m.put a (eH ⟨kind,(m.hdr a).2.c,(m.hdr a).2.f⟩)).puts (a+2) (padW (wH (m.hdr a).2 - 2).toNat pl)
/-- the error of a store, and the memory behind it -/
def Mm.store (m:Mm) (a x:Int):Int × Mm:=(if m.has a=true then 0 else 2,m.put a x)
def Mm.setF (m:Mm) (a i x:Int):Int × Mm:=if m.fldE a i≠0 then (m.fldE a i,m) else m.store (a+2+i) x
def Mm.toStub (m:Mm) (a owner x:Int):Int × Mm :=
 if (m.hdr a).1≠0 then ((m.hdr a).1,m) else if (m.hdr a).2.k=3 ∨ (m.hdr a).2.k=4 then (7,m) else if owner < 1 ∨ 8 < owner then (1,m) else (0,m.write a 3 [owner,x])
/-- where an address leads: nowhere, to itself, or on -/
def Mm.nxt (m:Mm) (a:Int):Option (Option Int) :=
 if (m.hdr a).1≠0 then none else if (m.hdr a).2.k≠4 then some none else match adr ((m.at_ (a+2)).getD 0) with
  | some b=>some (some b)
  | none=>none
def Mm.resN (m:Mm):Nat→Int→Option Int
 | 0,_=>none
 | f+1,a=>match m.nxt a with
  | none=>none
  | some none=>some a
  | some (some b)=>m.resN f b
def Mm.size (m:Mm):Nat:=m.old.ws.length+m.yng.ws.length
/-- the resolution of an address, and the error -/
def Mm.resolve (m:Mm) (a:Int):Int × Int:=if m.has a=false then (0,2) else match m.resN (m.size+1) a with
 | some b=>(b,0)
 | none=>(0,11)
def Mm.toFwd (m:Mm) (a to:Int):Int × Mm :=
 if (m.hdr a).1≠0 then ((m.hdr a).1,m) else if (m.hdr a).2.k=4 then (7,m) else if (m.resolve to).2≠0 ∨ (m.resolve to).1=a then (1,m) else (0,m.write a 4 [adW to])
def Mm.alloc (m:Mm) (young:Bool) (h:Hdr) (i:Id):Int × Mm × Int :=
 if young=true then ((m.yng.alloc h i).1,{ m with yng:=(m.yng.alloc h i).2.1 },(m.yng.alloc h i).2.2)
 else ((m.old.alloc h i).1,{ m with old:=(m.old.alloc h i).2.1 },(m.old.alloc h i).2.2)
theorem Mm.has_of_hdr {m:Mm} {a:Int} (h:(m.hdr a).1=0) {j:Int} (h0:0≤j) (h1:j < wH (m.hdr a).2):(m.sp a).has (a+j)=true:=by
 obtain⟨x,v,hx,_,_,_,hw⟩:=Spc.hdr_ok h
 have h2:=Spc.has_iff.1 (Spc.at_has hx)
 have h3:=Spc.has_iff.1 hw
 unfold Mm.hdr at h1
 exact Spc.has_iff.2 ⟨by omega,by omega⟩
theorem Mm.Ok.sp_near {m:Mm} (h:m.Ok) {a b:Int} (ha:(m.sp a).has a=true) (hb:(m.sp a).has b=true):m.sp b=m.sp a:=by
 unfold Mm.sp at ha hb ⊢
 by_cases ho:m.old.has a=true
 ·rw[if_pos ho] at ha hb ⊢
  rw[if_pos hb]
 ·rw[if_neg ho] at ha hb ⊢
  have:=h.yng_ge hb
  rw[if_neg]
  intro hc
  have:=h.old_lt hc
  omega
theorem Mm.Ok.has_near {m:Mm} (h:m.Ok) {a:Int} (hh:(m.hdr a).1=0) {j:Int} (h0:0≤j) (h1:j < wH (m.hdr a).2):m.has (a+j)=true∧m.sp (a+j)=m.sp a:=by
 have h2:=Mm.has_of_hdr hh h0 h1
 have h3:(m.sp a).has a=true:=by
  obtain⟨x,v,hx,_⟩:=Spc.hdr_ok hh
  exact Spc.at_has hx
 have h4:=h.sp_near h3 h2
 exact⟨by unfold Mm.has;rw[h4];exact h2,h4⟩
theorem Mm.hdr_valid {m:Mm} {a:Int} (h:(m.hdr a).1=0):vH (m.hdr a).2=true:=by
 obtain⟨x,v,_,hd,_⟩:=Spc.hdr_ok h
 exact(dH_some hd).1
theorem Mm.hdr_zero {m:Mm} {a:Int} (h:(m.hdr a).1≠0):(m.hdr a).2=Hdr.zero:=Spc.hdr_err h
theorem Mm.hdr_has {m:Mm} {a:Int} (h:(m.hdr a).1=0):m.has a=true:=by
 obtain⟨x,v,hx,_⟩:=Spc.hdr_ok h
 exact Spc.at_has hx
theorem Mm.fldE_ok {m:Mm} {a i:Int} (h:m.fldE a i=0):(m.hdr a).1=0∧((m.hdr a).2.k≠3∧(m.hdr a).2.k≠4)∧0≤i∧i < (m.hdr a).2.f:=by
 unfold Mm.fldE at h
 split at h
 ·rename_i h0;exact absurd h h0
 ·rename_i h0
  split at h
  ·cases h
  ·rename_i h1
   split at h
   ·cases h
   ·omega
def slotN (h:Hdr):Int:=if h.k=3 then 0 else if h.k=4 then 1 else h.f
/-- the slots of an object: addresses and words -/
def Mm.slotsAt (m:Mm) (a:Int):List (Int × Int):=((List.range (slotN (m.hdr a).2).toNat).map fun(i:Nat)=>a+2+(i:Int)).filterMap fun b=>(m.at_ b).map fun x=>(b,x)
def Mm.slots (m:Mm):List (Int × Int):=m.old.objs.flatMap m.slotsAt
def Mm.crossing (m:Mm) (p:Int→Bool):List Int:=(m.slots.filter fun s=>ygW s.2 && p s.1).map (·.1)
def cardIn (cs:List Int) (a:Int):Bool:=oldB a && cs.contains (a / 16)
def cardIns (c:Int):List Int→List Int
 | []=>[c]
 | x::l=>if x < c then x::cardIns c l else c::x::l
def cardMark (cs:List Int) (a:Int):Int × List Int:=if oldB a=false then (2,cs) else if cardIn cs a=true then (0,cs) else (0,cardIns (a / 16) cs)
end
end Go.Proofs.YtaijmgkjbbiboaaGreat
