/- Parts of the proof: Mem, KpD, WireP, Sep. -/
import Derived.Deep.Draws
import Derived.KernelRfl
import Derived.Laws.AppendOwn
import Derived.Laws.MakeOwn
import Derived.Lib.Hide
import Derived.Maps.AppendAt
import Derived.StillTail
import Derived.Test.YtmbnlccafcfbeaaGreatDoorPfA
import Derived.WalkKit
set_option linter.unusedVariables false
set_option linter.unusedSimpArgs false
set_option linter.unusedSectionVars false
set_option maxRecDepth 100000
set_option maxHeartbeats 64000000
namespace Go.Proofs.YtmbnlccafcfbeaaGreatDoor
section
open Go.RowKit
/-- The slice value with address A and n elements of s cells reads as the cells xs in the world w. -/
def Sl (w:World) (s:Nat) (A:Option Addr) (n:Nat) (xs:List Value):Prop :=
 xs.length=n*s∧(n=0 ∨ ∃ b o,A=some ⟨b,o,none⟩∧b < w.heap.size∧∀ j x,xs[j]?=some x→w.cell? ⟨b,o+j,none⟩=some x)
theorem qa4 {w:World} {p:Addr} {v:Value} (h:w.cell? p=some v):p.block < w.heap.size:=by
 rcases Nat.lt_or_ge p.block w.heap.size with h1 | h1
 ·exact h1
 ·rw[World.cell?,Array.getElem?_eq_none h1] at h;cases h
theorem Sl.nil (w:World) (s:Nat) (A:Option Addr):Sl w s A 0 []:=⟨by simp,.inl rfl⟩
theorem Sl.get {w:World} {s n:Nat} {A:Option Addr} {xs:List Value} (h:Sl w s A n xs) {k:Nat} (hk:k < n) :
  ∃ b o,A=some ⟨b,o,none⟩∧b < w.heap.size∧∀ j x,xs[j]?=some x→w.cell? ⟨b,o+j,none⟩=some x:=by
 rcases h.2 with h0 | h0
 ·omega
 ·exact h0
theorem Sl.keep {w w':World} {s n:Nat} {A:Option Addr} {xs:List Value} (h:Sl w s A n xs) (hs:w.heap.size≤w'.heap.size)
  (hk:∀ b o v,w.cell? ⟨b,o,none⟩=some v→w'.cell? ⟨b,o,none⟩=some v):Sl w' s A n xs:=by
 refine⟨h.1,?_⟩;rcases h.2 with h0 | ⟨b,o,e,hb,hc⟩
 ·exact .inl h0
 ·exact .inr ⟨b,o,e,by omega,fun j x hx=>hk _ _ _ (hc j x hx)⟩
theorem Sl.below {w w':World} {s n:Nat} {A:Option Addr} {xs:List Value} (h:Sl w s A n xs) (hb:bw w w'):Sl w' s A n xs :=
 h.keep hb.size fun b o v hv=>(hb.cell (p:=⟨b,o,none⟩) (qa4 hv)).trans hv
theorem Sl.drewN {w:World} {s n:Nat} {A:Option Addr} {xs:List Value} (h:Sl w s A n xs) (k:Nat):Sl (w.drewN k) s A n xs:=h
theorem Sl.new (w:World) (t:TypeId) (xs:List Value):Sl (w.alloc (.cells xs.toArray t)) 1 (some ⟨w.heap.size,0,none⟩) xs.length xs :=
 ⟨by simp,.inr ⟨_,_,rfl,by simp,fun j x hx=>by simpa using hx⟩⟩
theorem qf5 {B:Nat} {a w:World} (h:Below B a w) (n:Nat):Below B a (w.drewN n):=⟨h.os,h.tape,h.output,h.size,h.block⟩
theorem qa9 {W w1:World} (hb:bw W w1):(∀ b o,b < W.heap.size→w1.cell? ⟨b,o,none⟩=W.cell? ⟨b,o,none⟩)∧(∀ b o,b < W.heap.size→w1.frozen? ⟨b,o,none⟩=W.frozen? ⟨b,o,none⟩) :=
 ⟨fun b o h=>hb.cell (p:=⟨b,o,none⟩) h,fun b o h=>hb.frozen (p:=⟨b,o,none⟩) h⟩
/-- Block g is just the cells cs of element type t, none frozen. -/
def Bk (w:World) (g:Nat) (t:TypeId) (cs:Array Value):Prop:=w.heap[g]?=some (.cells cs t (0,0))
section
variable {w w':World} {g:Nat} {t:TypeId} {cs:Array Value}
theorem Bk.lt (h:Bk w g t cs):g < w.heap.size:=(Array.getElem?_eq_some_iff.1 h).1
theorem Bk.cell (h:Bk w g t cs) (i:Nat):w.cell? ⟨g,i,none⟩=cs[i]?:=by unfold Bk at h;simp[World.cell?,h]
theorem Bk.free (h:Bk w g t cs) (i:Nat):w.frozen? ⟨g,i,none⟩=false:=by unfold Bk at h;simp[World.frozen?,h]
theorem Bk.new (w:World) (t:TypeId) (cs:Array Value):Bk (w.alloc (.cells cs t)) w.heap.size t cs:=by show(w.heap.push _)[w.heap.size]?=_;simp
theorem Bk.alloc (h:Bk w g t cs) (o:Obj):Bk (w.alloc o) g t cs:=(Below.heap_alloc w o g h.lt).trans h
theorem Bk.set (h:Bk w g t cs) (i:Nat) (u:Value):Bk (w.setCell ⟨g,i,none⟩ u) g t (cs.setIfInBounds i u):=by
 unfold Bk at h ⊢
 simp[World.setCell,Array.getElem?_modify,h]
theorem Bk.far (h:Bk w g t cs) {p:Addr} (hp:g≠p.block) (u:Value):Bk (w.setCell p u) g t cs:=(Below.heap_setCell w p u g hp).trans h
theorem Bk.below {B:Nat} (h:Bk w g t cs) (hb:Below B w w') (hg:g < B):Bk w' g t cs:=(hb.block g hg).trans h
end
end
section
open Go.RowKit
/-- w' is w but for the blocks of S and new ones -/
structure Kp (S:Nat→Prop) (w w':World):Prop where
 os:w'.os=w.os
 tape:w'.tape=w.tape
 output:w'.output=w.output
 size:w.heap.size≤w'.heap.size
 block:∀ k,k < w.heap.size→¬ S k→w'.heap[k]?=w.heap[k]?
section
variable {S T:Nat→Prop} {w w1 w2:World}
theorem Kp.refl (S:Nat→Prop) (w:World):Kp S w w:=⟨rfl,rfl,rfl,Nat.le_refl _,fun _ _ _=>rfl⟩
theorem Kp.of_below (h:bw w w1):Kp S w w1:=⟨h.os,h.tape,h.output,h.size,fun k hk _=>h.block k hk⟩
theorem Kp.of_grown {row:Option Nat} (h:w.grownBy w1 row) (hr:∀ k,row=some k→S k):Kp S w w1:=⟨h.os,h.tape,h.output,h.size,fun k hk hn=>h.block k hk fun e=>hn (hr k e.symm)⟩
theorem Kp.mono (h:Kp S w w1) (hs:∀ k,k < w.heap.size→S k→T k):Kp T w w1:=⟨h.os,h.tape,h.output,h.size,fun k hk hn=>h.block k hk fun hS=>hn (hs k hk hS)⟩
theorem Kp.trans (h:Kp S w w1) (h':Kp T w1 w2) (hs:∀ k,k < w.heap.size→T k→S k):Kp S w w2 :=
 ⟨h'.os.trans h.os,h'.tape.trans h.tape,h'.output.trans h.output,Nat.le_trans h.size h'.size,fun k hk hn=>(h'.block k (Nat.lt_of_lt_of_le hk h.size) fun hT=>hn (hs k hk hT)).trans (h.block k hk hn)⟩
theorem Kp.toBelow {B:Nat} {w0:World} (h:Kp S w w1) (hb:Below B w0 w) (hB:B≤w.heap.size) (hS:∀ k,S k→B≤k):Below B w0 w1 :=
 ⟨h.os.trans hb.os,h.tape.trans hb.tape,h.output.trans hb.output,Nat.le_trans hb.size h.size,fun k hk=>(h.block k (Nat.lt_of_lt_of_le hk hB) fun hk'=>by have:=hS k hk';omega).trans (hb.block k hk)⟩
theorem Kp.drew (h:Kp S w w1):Kp S w w1.drew:=⟨h.os,h.tape,h.output,h.size,h.block⟩
theorem Kp.cell {a:Addr} {v:Value} (h:Kp S w w1) (hc:w.cell? a=some v) (hn:¬ S a.block):w1.cell? a=some v:=by
 rw[World.cell?_of_block (h.block a.block (qa4 hc) hn)];exact hc
theorem Bk.kp {g:Nat} {t:TypeId} {cs:Array Value} (h:Bk w g t cs) (hk:Kp S w w1) (hn:¬ S g):Bk w1 g t cs:=(hk.block g h.lt hn).trans h
theorem Kp.setCell (w:World) (a:Addr) (v:Value) (h:S a.block):Kp S w (w.setCell a v):=⟨rfl,rfl,rfl,by simp[World.setCell],fun k _ hn=>Below.heap_setCell w a v k (fun e=>hn (e ▸ h))⟩
end
end
section
def qj7 (n:Nat):List Int:=if h:n=0 then [] else qj7 (n / 256)++[((n % 256:Nat):Int)]
termination_by n
decreasing_by omega
theorem qg2:qj7 0=[]:=by rw[qj7,dif_pos rfl]
theorem qj2 {n:Nat} (h:n≠0):qj7 n=qj7 (n / 256)++[((n % 256:Nat):Int)]:=by rw[qj7,dif_neg h]
def qd8 (n:Int):List Int:=((qj7 n.toNat).length:Int)::qj7 n.toNat
def val (l:List Int):Int:=l.foldl (fun a x=>a*256+x) 0
theorem qm3 (l:List Int) (x:Int):val (l++[x])=val l*256+x:=by simp[val]
def B8 (l:List Int):Prop:=∀ x∈l,0≤x∧x≤255
theorem B8.nil:B8 []:=fun x h=>(by cases h)
theorem B8.app {l k:List Int} (h:B8 l) (h':B8 k):B8 (l++k):=fun x hx=>(List.mem_append.1 hx).elim (h x) (h' x)
theorem B8.left {l k:List Int} (h:B8 (l++k)):B8 l:=fun x hx=>h x (List.mem_append.2 (.inl hx))
theorem B8.right {l k:List Int} (h:B8 (l++k)):B8 k:=fun x hx=>h x (List.mem_append.2 (.inr hx))
theorem B8.take {l:List Int} (h:B8 l) (k:Nat):B8 (l.take k):=fun x hx=>h x (List.mem_of_mem_take hx)
theorem B8.drop {l:List Int} (h:B8 l) (k:Nat):B8 (l.drop k):=fun x hx=>h x (List.mem_of_mem_drop hx)
theorem B8.one {x:Int} (h0:0≤x) (h:x≤255):B8 [x]:=fun y hy=>by rw[List.mem_singleton.1 hy];exact⟨h0,h⟩
theorem digs_b8 (n:Nat):B8 (qj7 n):=by
 induction n using Nat.strongRecOn with
 | ind n ih =>
  by_cases h:n=0
  ·subst h;rw[qg2];exact B8.nil
  ·rw[qj2 h];exact(ih _ (by omega)).app (B8.one (by omega) (by omega))
theorem val_digs (n:Nat):val (qj7 n)=n:=by
 induction n using Nat.strongRecOn with
 | ind n ih =>
  by_cases h:n=0
  ·subst h;rw[qg2];rfl
  ·rw[qj2 h,qm3,ih _ (by omega)]
   omega
theorem qr2 (k:Nat):∀ n,n < 256 ^ k→(qj7 n).length≤k:=by
 induction k with
 | zero=>intro n h;rw[show n=0 by simpa using h,qg2];exact Nat.le_refl _
 | succ k ih =>
  intro n h
  by_cases h0:n=0
  ·subst h0;rw[qg2];exact Nat.zero_le _
  ·rw[qj2 h0,List.length_append];have:=ih (n / 256) (by rw[Nat.pow_succ] at h;omega)
   simp
   omega
theorem digs_ne (n:Nat) (h:n≠0):qj7 n≠[]:=by rw[qj2 h];simp
theorem digs_head (n:Nat):(qj7 n).head?≠some 0:=by
 induction n using Nat.strongRecOn with
 | ind n ih =>
  by_cases h:n=0
  ·subst h;rw[qg2];simp
  ·rw[qj2 h]
   by_cases h2:n / 256=0
   ·rw[h2,qg2]
    simp
    omega
   ·have:=ih (n / 256) (by omega)
    cases hd:qj7 (n / 256) with
    | nil=>exact absurd hd (digs_ne _ h2)
    | cons x t=>rw[hd] at this;simpa using this
theorem snocRec {P:List Int→Prop} (h0:P []) (h1:∀ l x,P l→P (l++[x])) (l:List Int):P l:=by
 rw[← List.reverse_reverse l]
 induction l.reverse with
 | nil=>exact h0
 | cons x t ih=>rw[List.reverse_cons];exact h1 _ _ ih
theorem val_nn {l:List Int} (h:B8 l):0≤val l:=by
 induction l using snocRec with
 | h0=>exact Int.le_refl _
 | h1 l x ih =>
  rw[qm3];have:=ih h.left;have:=h x (by simp)
  omega
theorem val_pos {l:List Int} (h:B8 l) (hh:l.head?≠some 0) (hn:l≠[]):0 < val l:=by
 induction l using snocRec with
 | h0=>exact absurd rfl hn
 | h1 l x ih =>
  rw[qm3];have h1:=val_nn h.left;have h2:=h x (by simp)
  cases l with
  | nil=>simp at hh;omega
  | cons y t =>
   have:=ih h.left (by simpa using hh) (by simp)
   omega
theorem digs_val {l:List Int} (h:B8 l) (hh:l.head?≠some 0):qj7 (val l).toNat=l:=by
 induction l using snocRec with
 | h0=>exact qg2
 | h1 l x ih =>
  have h1:=val_nn h.left;have h2:=h x (by simp);have h3:=val_pos h hh (by simp);rw[qm3] at h3 ⊢;rw[qj2 (by omega)];have e1:(val l*256+x).toNat / 256=(val l).toNat:=by omega
  have e2:(((val l*256+x).toNat % 256:Nat):Int)=x:=by omega
  rw[e1,e2]
  cases l with
  | nil=>simp[val,qg2]
  | cons y t=>rw[ih h.left (by simpa using hh)]
theorem val_lt {l:List Int} (h:B8 l):val l < ((256 ^ l.length:Nat):Int):=by
 induction l using snocRec with
 | h0=>decide
 | h1 l x ih =>
  rw[qm3,List.length_append,List.length_singleton,Nat.pow_succ];have h1:=ih h.left;have h2:=h x (by simp);generalize 256 ^ l.length=N at h1 ⊢
  omega
theorem qk8 {n:Int} (h:n < 18446744073709551616):B8 (qd8 n):=by
 have:=qr2 8 n.toNat (by omega);exact(B8.one (x:=((qj7 n.toNat).length:Int)) (by omega) (by omega)).app (digs_b8 _)
theorem qh1 {n:Int} (h:n < 18446744073709551616):(qd8 n).length≤9:=by
 have:=qr2 8 n.toNat (by omega);unfold qd8
 simp
 omega
theorem digs_step {n:Nat} (h:n≠0):(qj7 n).length=(qj7 (n / 256)).length+1:=by rw[qj2 h,List.length_append];rfl
theorem digs_get (n:Nat):∀ t,t < (qj7 n).length→(qj7 n)[t]?=some (((n / 256 ^ ((qj7 n).length - 1 - t) % 256:Nat)):Int):=by
 induction n using Nat.strongRecOn with
 | ind n ih =>
  intro t ht
  by_cases h:n=0
  ·subst h;rw[qg2] at ht;exact absurd ht (Nat.not_lt_zero _)
  ·have hl:=digs_step h;rw[hl]
   conv=>lhs;rw[qj2 h]
   by_cases h2:t < (qj7 (n / 256)).length
   ·rw[List.getElem?_append_left h2,ih _ (by omega) t h2];have e:(qj7 (n / 256)).length+1 - 1 - t=((qj7 (n / 256)).length - 1 - t)+1:=by omega
    rw[e,Nat.pow_succ,Nat.mul_comm,Nat.div_div_eq_div_mul]
   ·have e:t=(qj7 (n / 256)).length:=by omega
    subst e;rw[List.getElem?_append_right (Nat.le_refl _),Nat.sub_self];have e0:(qj7 (n / 256)).length+1 - 1 - (qj7 (n / 256)).length=0:=by omega
    rw[e0]
    simp
theorem digs_take {n t:Nat} (h:t < (qj7 n).length):(qj7 n).take (t+1)=(qj7 n).take t++[((n / 256 ^ ((qj7 n).length - 1 - t) % 256:Nat):Int)]:=by
 rw[List.take_add_one,digs_get n t h];rfl
structure Rd where
 b:List Int
 e:Int
def Rd.bad (e:Int):Rd:=⟨[],e⟩
def num:List Int→Option (Int × List Int)
 | []=>none
 | k::t=>if 8 < k ∨ (t.length:Int) < k ∨ (0 < k∧t.head?=some 0) then none else some (val (t.take k.toNat),t.drop k.toNat)
def Rd.u (r:Rd):Int × Rd:=if r.e≠0 then (0,r) else match num r.b with
 | some p=>(p.1,⟨p.2,0⟩)
 | none=>(0,Rd.bad 11)
theorem num_enc {n:Int} (h0:0≤n) (h:n < 18446744073709551616) (s:List Int):num (qd8 n++s)=some (n,s):=by
 have h1:=qr2 8 n.toNat (by omega);have h2:=digs_head n.toNat;have h3:=val_digs n.toNat;unfold qd8 num;rw[List.cons_append];dsimp only;rw[if_neg,Int.toNat_natCast,List.take_left',List.drop_left',h3]
 ·congr 2;omega
 ·rfl
 ·rfl
 ·rw[List.length_append];rintro(e | e | ⟨e1,e2⟩)
  ·omega
  ·omega
  ·cases hd:qj7 n.toNat with
   | nil=>rw[hd] at e1;simp at e1
   | cons x t=>rw[hd] at h2 e2;exact h2 (by simpa using e2)
theorem qq8 {b:List Int} (hb:B8 b) {n:Int} {s:List Int} (h:num b=some (n,s)):0≤n∧n < 18446744073709551616∧b=qd8 n++s:=by
 cases b with
 | nil=>cases h
 | cons k t =>
  unfold num at h;dsimp only at h
  split at h
  ·cases h
  ·rename_i hn
   cases h;have hk:=hb k (by simp);have ht:B8 t:=fun x hx=>hb x (by simp[hx]);have h1:=val_nn (ht.take k.toNat);have h2:=val_lt (ht.take k.toNat);have hl:(t.take k.toNat).length=k.toNat:=by rw[List.length_take];omega
   rw[hl] at h2;have h3:(256:Nat) ^ k.toNat≤256 ^ 8:=Nat.pow_le_pow_right (by decide) (by omega);have h9:(256:Nat) ^ 8=18446744073709551616:=rfl;refine⟨h1,by omega,?_⟩
   have hh:(t.take k.toNat).head?≠some 0:=by
    by_cases h0:k.toNat=0
    ·rw[h0];simp
    ·intro e;refine hn (.inr (.inr ⟨by omega,?_⟩))
     cases t with
     | nil=>rw[List.take_nil] at e;cases e
     | cons y t =>
      rw[show k.toNat=(k.toNat - 1)+1 by omega,List.take_succ_cons] at e;exact e
   unfold qd8;rw[digs_val (ht.take _) hh,hl,List.cons_append,List.take_append_drop]
   congr 1
   omega
structure Cod {α:Type} (enc:α→List Int) (dec:Rd→α × Rd) (P:α→Prop):Prop where
 fw:∀ x s,P x→dec ⟨enc x++s,0⟩=(x,⟨s,0⟩)
 st:∀ r,(dec r).2.e=0→r.e=0
 bw:∀ r,B8 r.b→(dec r).2.e=0→r.e=0∧r.b=enc (dec r).1++(dec r).2.b∧P (dec r).1
def P64 (n:Int):Prop:=0≤n∧n < 18446744073709551616
def I64 (n:Int):Prop:=-9223372036854775808≤n∧n≤9223372036854775807
theorem Cod.b8 {α:Type} {enc:α→List Int} {dec:Rd→α × Rd} {P:α→Prop} (h:Cod enc dec P) {r:Rd} (hb:B8 r.b) (he:(dec r).2.e=0):B8 (dec r).2.b:=by
 rw[(h.bw r hb he).2.1] at hb;exact hb.right
theorem Rd.u_e {r:Rd} (h:r.e≠0):r.u=(0,r):=by unfold Rd.u;rw[if_pos h]
theorem Rd.u_ok {b:List Int} {n:Int} {s:List Int} (h:num b=some (n,s)):(Rd.mk b 0).u=(n,⟨s,0⟩):=by unfold Rd.u;rw[if_neg (by simp),h]
theorem Rd.u_no {b:List Int} (h:num b=none):(Rd.mk b 0).u=(0,Rd.bad 11):=by unfold Rd.u;rw[if_neg (by simp),h]
theorem Rd.u_st (r:Rd) (h:r.u.2.e=0):r.e=0:=by
 by_cases h0:r.e=0
 ·exact h0
 ·rw[Rd.u_e h0] at h;exact h
theorem codU:Cod qd8 Rd.u P64:=by
 refine⟨fun x s h=>Rd.u_ok (num_enc h.1 h.2 s),Rd.u_st,fun r hb he=>?_⟩;obtain⟨b,e⟩:=r
 by_cases h:e=0
 ·subst h
  cases hn:num b with
  | none=>rw[Rd.u_no hn] at he;exact absurd he (by decide)
  | some p =>
   obtain⟨n,s⟩:=p;rw[Rd.u_ok hn];have:=qq8 hb hn;exact⟨rfl,this.2.2,this.1,this.2.1⟩
 ·rw[Rd.u_e (r:=⟨b,e⟩) h] at he;exact absurd he h
def zz (n:Int):Int:=if 0≤n then 2*n else -2*n - 1
def unzz (m:Int):Int:=if m % 2=1 then -(m / 2) - 1 else m / 2
def qb7 (n:Int):List Int:=qd8 (zz n)
def Rd.i (r:Rd):Int × Rd:=(unzz r.u.1,r.u.2)
theorem unzz_zz (n:Int):unzz (zz n)=n:=by unfold unzz zz;split <;> split <;> omega
theorem zz_unzz {m:Int} (h:0≤m):zz (unzz m)=m:=by unfold unzz zz;split <;> split <;> omega
theorem zz_rg {n:Int} (h:I64 n):P64 (zz n):=by unfold I64 at h;unfold P64 zz;split <;> omega
theorem unzz_rg {m:Int} (h:P64 m):I64 (unzz m):=by unfold P64 at h;unfold I64 unzz;split <;> omega
theorem qo6:Cod qb7 Rd.i I64:=by
 refine⟨fun x s h=>?_,fun r h=>Rd.u_st r h,fun r hb he=>?_⟩
 ·unfold Rd.i qb7;rw[codU.fw _ s (zz_rg h),unzz_zz]
 ·obtain⟨h1,h2,h3⟩:=codU.bw r hb he;refine⟨h1,?_,unzz_rg h3⟩;unfold qb7 Rd.i;rw[zz_unzz h3.1];exact h2
def Rd.count (most:Int) (r:Rd):Int × Rd:=if r.u.2.e≠0 then (0,r.u.2) else if most < 0 ∨ most < r.u.1 then (0,Rd.bad 8) else if (r.u.2.b.length:Int) < r.u.1 then (0,Rd.bad 11) else r.u
theorem Rd.count_e {most:Int} {r:Rd} (h:r.e≠0):r.count most=(0,r):=by unfold Rd.count;rw[Rd.u_e h,if_pos h]
theorem Rd.count_fw {most n:Int} {s:List Int} (h:P64 n) (hm:n≤most) (hs:n≤s.length):(Rd.mk (qd8 n++s) 0).count most=(n,⟨s,0⟩):=by
 unfold Rd.count;rw[codU.fw n s h];dsimp only;rw[if_neg (by simp),if_neg (by unfold P64 at h;omega),if_neg (by omega)]
theorem Rd.count_bw {most:Int} {r:Rd} (hb:B8 r.b) (he:(r.count most).2.e=0):r.e=0∧r.b=qd8 (r.count most).1++(r.count most).2.b∧P64 (r.count most).1∧(r.count most).1≤most∧(r.count most).1≤(r.count most).2.b.length∧B8 (r.count most).2.b:=by
 unfold Rd.count at he ⊢
 split at he
 ·rename_i h;exact absurd he h
 ·rename_i h
  split at he
  ·exact absurd he (by decide)
  ·rename_i h2
   split at he
   ·exact absurd he (by decide)
   ·rename_i h3
    rw[if_neg h,if_neg h2,if_neg h3];obtain⟨g1,g2,g3⟩:=codU.bw r hb he;exact⟨g1,g2,g3,by omega,by omega,codU.b8 hb he⟩
def qk0 (x:Bool):List Int:=if x=true then [1] else [0]
def Rd.bool (r:Rd):Bool × Rd:=if r.e≠0 then (false,r) else match r.b with
 | []=>(false,Rd.bad 11)
 | x::t=>if 1 < x then (false,Rd.bad 11) else (decide (x=1),⟨t,0⟩)
theorem codB:Cod qk0 Rd.bool fun _=>True:=by
 have hst:∀ r:Rd,r.bool.2.e=0→r.e=0:=fun r h=>by
  unfold Rd.bool at h
  split at h
  ·exact h
  ·rename_i h0;simpa using h0
 refine⟨fun x s _=>?_,hst,fun r hb he=>?_⟩
 ·cases x <;> rfl
 ·obtain⟨b,e⟩:=r;unfold Rd.bool at he ⊢
  split at he
  ·rename_i h;exact absurd he h
  ·rename_i h
   rw[if_neg h]
   cases b with
   | nil=>cases he
   | cons x t =>
    dsimp only at he ⊢
    split at he
    ·exact absurd he (by decide)
    ·rename_i h2
     rw[if_neg h2];have:=hb x (by simp);refine⟨by simpa using h,?_,trivial⟩
     by_cases hx:x=1
     ·subst hx;rfl
     ·have:x=0:=by omega
      subst this;rfl
def bts (s:ByteArray):List Int:=s.data.toList.map fun c=>(c.toNat:Int)
def txt (l:List Int):ByteArray:=⟨(l.map fun x=>UInt8.ofNat x.toNat).toArray⟩
theorem qv2 (s:ByteArray):(bts s).length=s.size:=by unfold bts;simp
theorem bts_b8 (s:ByteArray):B8 (bts s):=fun x hx=>by
 obtain⟨c,_,rfl⟩:=List.mem_map.1 hx;have:=c.toNat_lt
 omega
theorem txt_bts (s:ByteArray):txt (bts s)=s:=by
 unfold txt bts;rw[List.map_map]
 have:(s.data.toList.map ((fun x:Int=>UInt8.ofNat x.toNat) ∘ fun c:UInt8=>(c.toNat:Int)))=s.data.toList:=by
  conv=>rhs;rw[← List.map_id s.data.toList]
  refine List.map_congr_left fun c _=>?_
  simp
 rw[this]
theorem bts_txt {l:List Int} (h:B8 l):bts (txt l)=l:=by
 unfold txt bts;simp only[List.map_map]
 conv=>rhs;rw[← List.map_id l]
 refine List.map_congr_left fun x hx=>?_;have:=h x hx
 simp
 omega
def qj9 (s:ByteArray):List Int:=qd8 s.size++bts s
def Rd.text (most:Int) (r:Rd):ByteArray × Rd:=if r.u.2.e≠0 then (⟨#[]⟩,r.u.2) else if most < r.u.1 then (⟨#[]⟩,Rd.bad 8) else if (r.u.2.b.length:Int) < r.u.1 then (⟨#[]⟩,Rd.bad 11) else (txt (r.u.2.b.take r.u.1.toNat),⟨r.u.2.b.drop r.u.1.toNat,0⟩)
theorem codS (most:Int) (hm:most < 18446744073709551616):Cod qj9 (Rd.text most) fun s=>(s.size:Int)≤most:=by
 refine⟨fun x s h=>?_,fun r h=>Rd.u_st r ?_,fun r hb he=>?_⟩
 ·unfold Rd.text qj9;rw[List.append_assoc,codU.fw _ _ ⟨by omega,by omega⟩];have hl:=qv2 x;dsimp only;rw[if_neg (by simp),if_neg (by omega),if_neg (by rw[List.length_append];omega),Int.toNat_natCast,← hl,List.take_left,List.drop_left,txt_bts]
 ·unfold Rd.text at h
  split at h
  ·exact h
  ·rename_i h0;simpa using h0
 ·unfold Rd.text at he ⊢
  split at he
  ·rename_i h;exact absurd he h
  ·rename_i h
   split at he
   ·exact absurd he (by decide)
   ·rename_i h2
    split at he
    ·exact absurd he (by decide)
    ·rename_i h3
     rw[if_neg h,if_neg h2,if_neg h3];have h4:r.u.2.e=0:=by simpa using h
     obtain⟨g1,g2,g3⟩:=codU.bw r hb h4;have g4:=codU.b8 hb h4;have hb2:=bts_txt (g4.take r.u.1.toNat);have hl:=qv2 (txt (r.u.2.b.take r.u.1.toNat));rw[hb2,List.length_take] at hl;unfold P64 at g3;have hs:((txt (r.u.2.b.take r.u.1.toNat)).size:Int)=r.u.1:=by omega
     refine⟨g1,?_,by dsimp only;omega⟩;unfold qj9;rw[hs,hb2];dsimp only;rw[List.append_assoc,List.take_append_drop];exact g2
section
variable {α:Type}
/-- k elements, one behind the other -/
def rep (one:Rd→α × Rd) (r:Rd):Nat→List α × Rd
 | 0=>([],r)
 | k+1=>((rep one r k).1++[(one (rep one r k).2).1],(one (rep one r k).2).2)
def qc6 (enc:α→List Int) (l:List α):List Int:=qd8 l.length++l.flatMap enc
def Rd.list (most:Int) (one:Rd→α × Rd) (r:Rd):List α × Rd:=rep one (r.count most).2 (r.count most).1.toNat
theorem qh8 (one:Rd→α × Rd) (r:Rd):∀ k,(rep one r k).1.length=k
 | 0=>rfl
 | k+1=>by unfold rep;simp[qh8 one r k]
theorem rep_fw {enc:α→List Int} {one:Rd→α × Rd} {P:α→Prop} (h:Cod enc one P) (l:List α) (hP:∀ x∈l,P x) (s:List Int):∀ k,k≤l.length→rep one ⟨l.flatMap enc++s,0⟩ k=(l.take k,⟨(l.drop k).flatMap enc++s,0⟩)
 | 0,_=>rfl
 | k+1,hk=>by
  unfold rep;rw[rep_fw h l hP s k (by omega)];have e:l.drop k=l[k]::l.drop (k+1):=List.drop_eq_getElem_cons (by omega);dsimp only;rw[e,List.flatMap_cons,List.append_assoc,h.fw _ _ (hP _ (List.getElem_mem _))];dsimp only;rw[List.take_succ_eq_append_getElem (by omega)]
theorem rep_bw {enc:α→List Int} {one:Rd→α × Rd} {P:α→Prop} (h:Cod enc one P) {r:Rd} (hb:B8 r.b):∀ k,(rep one r k).2.e=0→r.e=0∧r.b=(rep one r k).1.flatMap enc++(rep one r k).2.b∧(∀ x∈(rep one r k).1,P x)∧B8 (rep one r k).2.b
 | 0,he=>⟨he,rfl,fun x hx=>(by cases hx),hb⟩
 | k+1,he=>by
  have h0:(one (rep one r k).2).2.e=0:=he;have hk:(rep one r k).2.e=0:=h.st _ h0;obtain⟨h1,h2,h3,h4⟩:=rep_bw h hb k hk;obtain⟨g1,g2,g3⟩:=h.bw _ h4 h0;refine⟨h1,?_,fun x hx=>?_,h.b8 h4 h0⟩
  ·unfold rep;dsimp only;rw[List.flatMap_append,List.append_assoc,List.flatMap_singleton,← g2];exact h2
  ·unfold rep at hx;rcases List.mem_append.1 hx with hx | hx
   ·exact h3 x hx
   ·rw[List.mem_singleton.1 hx];exact g3
end
end
section
open Go.RowKit
/-- what an operation's run hands back, whatever the frame -/
def Made (P:Program) (T:Value→World→Prop):Result Next→Prop
 | .ok (.value v) w'=>T v w'
 | .ok .skip w'=>T undef w'
 | .ok (.enter f args) w'=>Calls P f args w' fun e w''=>∃ v,e=.returned v∧T v w''
 | .ok (.row row args) w'=>Rows P row args w' T
 | _=>False
theorem qp0 {P:Program} {T:Value→World→Prop} {o:Oper} {a:Act} {w:World} {K:Act→World→Prop} {Q:Exit→Act→World→Prop}
  (h:Made P T ((execOp a.eval o).run P w)) (hK:∀ v w',T v w'→K (a.put o.dst v) w'):o.wp P a w K Q:=by
 unfold Oper.wp;generalize (execOp a.eval o).run P w=r at *
 cases r with
 | ok n w' =>
  cases n <;> simp only[Made] at h <;> simp only[Oper.upon]
  case value v=>exact hK _ _ h
  case skip=>exact hK _ _ h
  case enter f args=>exact h.mono fun e w'' ⟨v,he,hT⟩=>by subst he;exact hK _ _ hT
  case row r args=>exact Rows.mono h fun v w'' hT=>hK _ _ hT
 | halt x w'=>simp only[Made] at h
def qb9 (ops:Array Oper) (i:Nat):Option Tmp:=(ops[i]?).bind (·.dst)
def qf0 (ops:Array Oper) (i j:Nat):Bool:=match ops[i]? with
 | some o=>o.after.any fun e=>Region.binds .any e && e.on == j
 | none=>false
/-- the operation n qf0 for the operation i, by some way -/
def qn2 (ops:Array Oper) (n:Nat):Nat→Nat→Bool
 | 0,i=>qf0 ops n i
 | f+1,i=>qf0 ops n i || (List.range n).any fun k=>qf0 ops k i && qn2 ops n f k
/-- the frame with the values of some operations -/
def frm (ops:Array Oper) (a:Act) (vs:Nat→Value):List Nat→Act
 | []=>a
 | i::l=>(frm ops a vs l).put (qb9 ops i) (vs i)
/-- what can be read off the region's text -/
structure SepB (ops:Array Oper) (N n:Nat) (ds eats:Nat→List Nat) (fl:Nat→Bool) (md:Nat):Prop where
 size:ops.size=N
 le:n≤N
 lt:md≠2→n < N
 sel:Region.noSelect ops=true
 guard:∀ i,i < n→∀ o,ops[i]?=some o→∀ g b,o.guard=some (g,b)→g∈ds i
 back:∀ i,i < N→∀ o,ops[i]?=some o→∀ e∈o.after,Region.binds .any e=true→e.on < i
 dep:∀ i,i < n→∀ j∈ds i,qf0 ops i j=true
 eat:∀ i,i < n→∀ m∈eats i,m∈ds i
 once:∀ i,i < n→∀ m∈eats i,∀ j,j < n→m∈ds j→j=i
 opnd:∀ i,i < n→∀ o,ops[i]?=some o→∀ t,.tmp t∈o.op.operands→∀ j,j < n→qb9 ops j=some t→j∈ds i
 dist:∀ i,i < n→∀ j,j < n→∀ d,qb9 ops i=some d→qb9 ops j=some d→i=j
 dst:∀ i,i < n→∃ d,qb9 ops i=some d
 last:md≠2→∀ i,i < n→fl i=false→qn2 ops n n i=true
 chain:md=0→∀ j,n≤j→j+1 < N→qf0 ops (j+1) j=true
 late:∀ j,n < j→j < N→∃ f,qn2 ops j f n=true
/-- the same, as a Bool -/
def sepG (gd:Bool) (ops:Array Oper) (N n:Nat) (ds eats:Nat→List Nat) (fl:Nat→Bool:=fun _=>false) (md:Nat:=0):Bool :=
 decide (ops.size=N) && decide (n < N ∨ (md=2∧n=N)) && (List.range N).all (fun j=>if md≠0 then !decide (n < j) || qn2 ops j N n else !(decide (n≤j) && decide (j+1 < N)) || qf0 ops (j+1) j) && Region.noSelect ops &&
 (List.range n).all (fun i=>((ops[i]?).map (fun o=>match o.guard with | none=>true | some (g,_)=>gd && (ds i).contains g)).getD true && (qb9 ops i).isSome && (ds i).all (qf0 ops i) && (eats i).all ((ds i).contains ·) &&
  (List.range n).all (fun j=>((eats i).all fun m=>!(ds j).contains m || j == i) && (qb9 ops i != qb9 ops j || i == j) &&
   ((ops[i]?).map fun o=>o.op.operands.all fun x=>match x with | .tmp t=>qb9 ops j != some t || (ds i).contains j | _=>true).getD true) && (decide (md=2) || fl i || qn2 ops n n i)) &&
 (List.range N).all (fun i=>((ops[i]?).map fun o=>o.after.all fun e=>!Region.binds .any e || decide (e.on < i)).getD true)
theorem qu7 {ops:Array Oper} {N n j:Nat} (hc:∀ k,n≤k→k+1 < N→qf0 ops (k+1) k=true):∀ (d i:Nat),n≤i→j=i+d→j < N→0 < d→qn2 ops j d i=true
 | 0,i,_,_,_,h=>absurd h (Nat.lt_irrefl 0)
 | d+1,i,hi,hj,hN,_=>by
  unfold qn2;rw[Bool.or_eq_true];rcases Nat.eq_zero_or_pos d with h0 | h0
  ·subst h0
   left
   rw[hj];exact hc i hi (by omega)
  ·right
   rw[List.any_eq_true];refine⟨i+1,List.mem_range.2 (by omega),?_⟩;rw[Bool.and_eq_true];exact⟨hc i hi (by omega),qu7 hc d (i+1) (by omega) (by omega) hN h0⟩
/-- no operation ahead of the tail is guarded -/
def sepB (ops:Array Oper) (N n:Nat) (ds eats:Nat→List Nat):Bool:=sepG false ops N n ds eats
theorem SepB.ofG {gd:Bool} {ops:Array Oper} {N n:Nat} {ds eats:Nat→List Nat} {fl:Nat→Bool} {md:Nat} (h:sepG gd ops N n ds eats fl md=true):SepB ops N n ds eats fl md:=by
 unfold sepG at h;simp only[Bool.and_eq_true,decide_eq_true_eq,List.all_eq_true,List.mem_range] at h;obtain⟨⟨⟨⟨⟨h1,h1'⟩,h1''⟩,h2⟩,h3⟩,h4⟩:=h;refine⟨h1,by omega,fun hmd=>by omega,h2,fun i hi o ho g b hgb=>?_,fun i hi o ho e he hb=>?_,fun i hi j hj=>?_,fun i hi m hm=>?_,fun i hi m hm j hj hmj=>?_,fun i hi o ho t ht j hj hd=>?_,fun i hi j hj d hd hd'=>?_,fun i hi=>?_,fun hmd i hi hf=>?_,fun ht j hj hj'=>?_,fun j hj hj'=>?_⟩
 ·have:=(h3 i hi).1.1.1.1.1;rw[ho] at this;simp only[Option.map_some,Option.getD_some,hgb,Bool.and_eq_true,List.contains_eq_mem,decide_eq_true_eq] at this;exact this.2
 ·have:=h4 i hi;rw[ho] at this;simp only[Option.map_some,Option.getD_some,Array.all_eq_true_iff_forall_mem,Bool.or_eq_true,decide_eq_true_eq] at this;rcases this e he with h | h
  ·simp[hb] at h
  ·exact h
 ·exact(h3 i hi).1.1.1.2 j hj
 ·have:=(h3 i hi).1.1.2 m hm
  simpa using this
 ·have:=((h3 i hi).1.2 j hj).1.1 m hm;simp only[Bool.or_eq_true,Bool.not_eq_true',List.contains_eq_mem,decide_eq_false_iff_not,beq_iff_eq] at this;rcases this with h | h
  ·exact absurd hmj h
  ·exact h
 ·have:=((h3 i hi).1.2 j hj).2;rw[ho] at this;simp only[Option.map_some,Option.getD_some,Array.all_eq_true_iff_forall_mem] at this;have:=this _ ht;simp only[hd,bne_self_eq_false,Bool.false_or,List.contains_eq_mem,decide_eq_true_eq] at this;exact this
 ·have:=((h3 i hi).1.2 j hj).1.2;rw[hd,hd'] at this
  simpa using this
 ·have:=(h3 i hi).1.1.1.1.2;exact Option.isSome_iff_exists.1 this
 ·have:=(h3 i hi).2;rw[hf,Bool.or_false,Bool.or_eq_true,decide_eq_true_eq] at this;exact this.resolve_left hmd
 ·have:=h1'' j (by omega);rw[if_neg (by rw[ht];simp)] at this
  simpa [hj,hj'] using this
 ·by_cases hmd:md=0
  ·have hc:∀ k,n≤k→k+1 < N→qf0 ops (k+1) k=true:=fun k hk hk'=>by
    have:=h1'' k (by omega);rw[if_neg (by simp[hmd])] at this
    simpa [hk,hk'] using this
   exact⟨j - n,qu7 hc (j - n) n (Nat.le_refl _) (by omega) hj' (by omega)⟩
  ·have:=h1'' j hj';rw[if_pos hmd] at this;exact⟨N,by simpa [hj] using this⟩
theorem SepB.of {ops:Array Oper} {N n:Nat} {ds eats:Nat→List Nat} (h:sepB ops N n ds eats=true):SepB ops N n ds eats (fun _=>false) 0:=SepB.ofG h
theorem sepB_bare {ops:Array Oper} {N n:Nat} {ds eats:Nat→List Nat} (h:sepB ops N n ds eats=true):∀ i,i < n→∀ o,ops[i]?=some o→o.guard=none:=by
 intro i hi o ho;unfold sepB sepG at h;simp only[Bool.and_eq_true,decide_eq_true_eq,List.all_eq_true,List.mem_range] at h;have:=(h.1.2 i hi).1.1.1.1.1;rw[ho] at this
 cases hg:o.guard with
 | none=>rfl
 | some p=>simp[hg] at this
section
variable {P:Program} {ops:Array Oper} {N n:Nat} {ds eats:Nat→List Nat} {fl:Nat→Bool} {md:Nat} {R:Nat→Value→World→Prop} {ob:Nat→Value→Option Nat} {W:World} {B:Nat} {ini:Nat→Option Nat} {a0:Act} {Q:Exit→Act→World→Prop}
theorem frm_defers (vs:Nat→Value):∀ l,(frm ops a0 vs l).defers=a0.defers
 | []=>rfl
 | i::l=>by
  show((frm ops a0 vs l).put _ _).defers=_
  unfold Act.put
  split <;> exact frm_defers vs l
theorem frm_size (vs:Nat→Value):∀ l,(frm ops a0 vs l).tmps.size=a0.tmps.size
 | []=>rfl
 | i::l=>by
  show((frm ops a0 vs l).put _ _).tmps.size=_
  unfold Act.put
  split
  ·simpa using frm_size vs l
  ·exact frm_size vs l
theorem frm_slot (hs:SepB ops N n ds eats fl md) (vs:Nat→Value):∀ l,(∀ i∈l,i < n)→∀ i∈l,∀ d,qb9 ops i=some d→d < a0.tmps.size→(frm ops a0 vs l).tmps[d]?=some (vs i)
 | [],_,i,hi,_,_,_=>by cases hi
 | j::l,hl,i,hi,d,hd,hlt=>by
  show((frm ops a0 vs l).put (qb9 ops j) (vs j)).tmps[d]?=_
  by_cases hij:i=j
  ·subst hij;rw[hd];simp only[Act.put];rw[Array.getElem?_setIfInBounds_self_of_lt (by rw[frm_size];exact hlt)]
  ·have hi':i∈l:=by
    rcases List.mem_cons.1 hi with h | h
    ·exact absurd h hij
    ·exact h
   obtain⟨e,he⟩:=hs.dst j (hl j (List.mem_cons_self ..));have hne:e≠d:=fun h=>hij (hs.dist i (hl i hi) j (hl j (List.mem_cons_self ..)) d hd (h ▸ he));rw[he];simp only[Act.put];rw[Array.getElem?_setIfInBounds_ne hne];exact frm_slot hs vs l (fun k hk=>hl k (List.mem_cons_of_mem _ hk)) i hi' d hd hlt
theorem qr0 (vs:Nat→Value):∀ l d,(∀ i∈l,qb9 ops i≠some d)→(frm ops a0 vs l).tmps[d]?=a0.tmps[d]?
 | [],_,_=>rfl
 | j::l,d,h=>by
  show((frm ops a0 vs l).put (qb9 ops j) (vs j)).tmps[d]?=_
  have hj:=h j (List.mem_cons_self ..)
  cases he:qb9 ops j with
  | none=>exact qr0 vs l d fun i hi=>h i (List.mem_cons_of_mem _ hi)
  | some e =>
   rw[he] at hj;have hne:e≠d:=fun h=>hj (by rw[h]);simp only[Act.put];rw[Array.getElem?_setIfInBounds_ne hne];exact qr0 vs l d fun i hi=>h i (List.mem_cons_of_mem _ hi)
/-- what the operation i may use: what its deps have laid -/
def GivenB (R:Nat→Value→World→Prop) (ob:Nat→Value→Option Nat) (W:World) (B:Nat) (ini:Option Nat) (vs:Nat→Value) (l:List Nat) (w:World):Prop :=
 (∀ k,ini=some k→w.heap[k]?=W.heap[k]?)∧Below B W w∧(∀ j∈l,R j (vs j) w∧∀ k,ob j (vs j)=some k→B≤k∧k < w.heap.size)∧∀ j∈l,∀ j'∈l,j≠j'→∀ k,ob j (vs j)=some k→ob j' (vs j')≠some k
/-- what it has to lay -/
def LaysB (R:Nat→Value→World→Prop) (ob:Nat→Value→Option Nat) (B:Nat) (ini:Nat→Option Nat) (vs:Nat→Value) (eat:List Nat) (i:Nat) (w:World) (v:Value) (w':World):Prop :=
 R i v w'∧w'.os=w.os∧w'.tape=w.tape∧w'.output=w.output∧w.heap.size≤w'.heap.size∧(∀ k,k < w.heap.size→(∀ j∈eat,ob j (vs j)≠some k)→w'.heap[k]?=w.heap[k]?) ∧
 ∀ k,ob i v=some k→k < w'.heap.size∧B≤k∧(w.heap.size≤k ∨ (∃ j∈eat,ob j (vs j)=some k) ∨ ini i=some k)
structure SInv (ops:Array Oper) (N n:Nat) (eats:Nat→List Nat) (R:Nat→(Nat→Value)→Value→World→Prop) (ob:Nat→Value→Option Nat) (W:World) (B:Nat) (ini:Nat→Option Nat) (a0:Act) (vs:Nat→Value) (L:Array Bool) (a:Act) (w:World):Prop where
 defers:a.defers=a0.defers
 size:a.tmps.size=a0.tmps.size
 slot:∀ i,i < n→L.getD i false=true→∀ d,qb9 ops i=some d→d < a0.tmps.size→a.tmps[d]?=some (vs i)
 rest:∀ d,(∀ i,i < n→L.getD i false=true→qb9 ops i≠some d)→a.tmps[d]?=a0.tmps[d]?
 below:Below B W w
 holds:∀ i,i < n→L.getD i false=true→(∀ j,j < n→L.getD j false=true→i ∉ eats j)→R i vs (vs i) w∧∀ k,ob i (vs i)=some k→B≤k∧k < w.heap.size
 apart:∀ i,i < n→L.getD i false=true→(∀ j,j < n→L.getD j false=true→i ∉ eats j)→∀ i',i' < n→L.getD i' false=true→(∀ j,j < n→L.getD j false=true→i' ∉ eats j)→i≠i'→∀ k,ob i (vs i)=some k→ob i' (vs i')≠some k
 lsize:L.size=N
 nlast:∀ j,n≤j→j < N→L.getD j true=false
 hB:B≤W.heap.size
 hini:∀ i k,ini i=some k→k < W.heap.size∧B≤k
 iinj:∀ i i' k,ini i=some k→ini i'=some k→i=i'
 same:∀ i,L.getD i false=false→∀ k,ini i=some k→w.heap[k]?=W.heap[k]?
 clean:∀ i,L.getD i false=false→∀ k,ini i=some k→∀ j,j < n→L.getD j false=true→(∀ m,m < n→L.getD m false=true→j ∉ eats m)→ob j (vs j)≠some k
 closed:∀ k,k < n→L.getD k false=true→∀ i,qf0 ops k i=true→L.getD i false=true
 kp:∀ k,k < W.heap.size→(∀ i,ini i≠some k)→w.heap[k]?=W.heap[k]?
 orig:∀ i,i < n→L.getD i false=true→(∀ j,j < n→L.getD j false=true→i ∉ eats j)→∀ k,ob i (vs i)=some k→W.heap.size≤k ∨ ∃ i',ini i'=some k
theorem Below.ofLays {vs:Nat→Value} {eat:List Nat} {i:Nat} {w w':World} {v:Value} (hBW:B≤W.heap.size) (hb:Below B W w) (he:∀ j∈eat,∀ k,ob j (vs j)=some k→B≤k) (h:LaysB R ob B ini vs eat i w v w'):Below B W w':=by
 obtain⟨_,h1,h2,h3,h4,h5,_⟩:=h;have hs:=hb.size;exact⟨h1.trans hb.os,h2.trans hb.tape,h3.trans hb.output,Nat.le_trans hs h4,fun k hk=>(h5 k (by omega) fun j hj hk'=>by have:=he j hj k hk';omega).trans (hb.block k hk)⟩
theorem qf1 {L:Array Bool} {i:Nat} (h:i < L.size) (b:Bool):(L.setIfInBounds i true).getD i b=true:=by simp[h]
theorem qi8 {j:Nat} {L:Array Bool} (h:j∈Region.ready .any ops L):j < L.size:=by
 have h0:=(mem_ready.1 h).1;rcases Nat.lt_or_ge j L.size with h' | h'
 ·exact h'
 ·simp[Array.getElem?_eq_none h'] at h0
theorem qd9 {i j:Nat} {L:Array Bool} (hr:i∈Region.ready .any ops L) (h:qf0 ops i j=true):L.getD j false=true:=by
 obtain⟨_,o,ho,hall⟩:=mem_ready.1 hr;unfold qf0 at h;rw[ho] at h;obtain⟨e,he,hb⟩:=Array.any_eq_true'.1 h;simp only[Bool.and_eq_true,beq_iff_eq] at hb;rw[← hb.2];exact hall e he hb.1
theorem ql8 {L:Array Bool} (hr:n∈Region.ready .any ops L) (hc:∀ k,k < n→L.getD k false=true→∀ i,qf0 ops k i=true→L.getD i false=true):∀ (f i:Nat),qn2 ops n f i=true→L.getD i false=true
 | 0,i,h=>qd9 hr h
 | f+1,i,h=>by
  unfold qn2 at h;rw[Bool.or_eq_true] at h;rcases h with h | h
  ·exact qd9 hr h
  ·obtain⟨k,hk,h1⟩:=List.any_eq_true.1 h;rw[Bool.and_eq_true] at h1;exact hc k (List.mem_range.1 hk) (ql8 hr hc f k h1.2) i h1.1
/-- one operation more -/
theorem SInv.step {R:Nat→(Nat→Value)→Value→World→Prop} (hs:SepB ops N n ds eats fl md) (hdep:∀ i vs vs' v w,i < n→(∀ j∈ds i,vs j=vs' j)→R i vs v w→R i vs' v w) (hloc:∀ i vs v w w',i < n→R i vs v w→Below B W w→Below B W w'→w.heap.size≤w'.heap.size→(∀ k,ob i v=some k→w'.heap[k]?=w.heap[k]?)→((∀ i,eats i=[])→bw w w')→R i vs v w')
  {vs:Nat→Value} {L:Array Bool} {a:Act} {w:World} (inv:SInv ops N n eats R ob W B ini a0 vs L a w) {i:Nat} (hi:i < n) (hr:i∈Region.ready .any ops L) {v:Value} {w':World} (hl:LaysB (fun j=>R j vs) ob B ini vs (eats i) i w v w') :
  SInv ops N n eats R ob W B ini a0 (fun j=>if j=i then v else vs j) (L.setIfInBounds i true) (a.put (qb9 ops i) v) w':=by
 have hun:L.getD i true=false:=(mem_ready.1 hr).1;have hun':L.getD i false=false:=getD_both hun;have hlt:=qi8 hr;have hdl:∀ j∈ds i,L.getD j false=true:=fun j hj=>qd9 hr (hs.dep i hi j hj)
 have hget:∀ j,(L.setIfInBounds i true).getD j false=true→j=i ∨ L.getD j false=true:=fun j hj=>by
  by_cases h:i=j
  ·exact .inl h.symm
  ·rw[getD_set_ne false h] at hj;exact .inr hj
 have hown:∀ j,L.getD j false=true→j≠i:=fun j hj h=>by rw[h,hun'] at hj;cases hj
 have hdlt:∀ j∈ds i,j < n:=fun j hj=>by
  obtain⟨_,o,ho,hall⟩:=mem_ready.1 hr;have hw:=hs.dep i hi j hj;unfold qf0 at hw;rw[ho] at hw;obtain⟨e,he,hb⟩:=Array.any_eq_true'.1 hw;simp only[Bool.and_eq_true,beq_iff_eq] at hb;have:=hs.back i (by have:=hs.le;omega) o ho e he hb.1
  omega
 have hlive:∀ j∈eats i,∀ m,m < n→L.getD m false=true→j ∉ eats m:=fun j hj m hm hml hjm =>
  hown m hml (hs.once i hi j hj m hm (hs.eat m hm j hjm))
 have heat:∀ j∈eats i,∀ k,ob j (vs j)=some k→B≤k∧k < w.heap.size:=fun j hj =>
  (inv.holds j (hdlt j (hs.eat i hi j hj)) (hdl j (hs.eat i hi j hj)) (hlive j hj)).2
 have hb':Below B W w':=Below.ofLays inv.hB inv.below (fun j hj k hk=>(heat j hj k hk).1) hl;obtain⟨hR,h1,h2,h3,h4,h5,h6⟩:=hl;obtain⟨d,hd⟩:=hs.dst i hi
 -- a value that is still whole is not eaten now
 have hkeep:∀ j,j < n→L.getD j false=true→(∀ m,m < n→(L.setIfInBounds i true).getD m false=true→j ∉ eats m) →
   (∀ m,m < n→L.getD m false=true→j ∉ eats m)∧j ∉ eats i:=fun j hj hjl h =>
  ⟨fun m hm hml=>h m hm (getD_set_true hml),h i hi (qf1 hlt false)⟩
 have hfar:∀ j,j < n→L.getD j false=true→(∀ m,m < n→L.getD m false=true→j ∉ eats m)→j ∉ eats i→∀ k,ob j (vs j)=some k→w'.heap[k]?=w.heap[k]?:=fun j hj hjl hjv hji k hk =>
  h5 k ((inv.holds j hj hjl hjv).2 k hk).2 fun m hm=>inv.apart j hj hjl hjv m (hdlt m (hs.eat i hi m hm)) (hdl m (hs.eat i hi m hm)) (hlive m hm) (fun e=>hji (e ▸ hm)) k hk
 refine⟨?_,?_,?_,?_,hb',?_,?_,by simp[inv.lsize],?_,inv.hB,inv.hini,inv.iinj,fun i' hi' k hk=>?_,fun i' hi' k hk j hj hjl hjv hjk=>?_,fun k hk hkl j hj=>?_,fun k hk hni=>?_,fun j hj hjl hjv k hk=>?_⟩
 ·rw[hd];exact inv.defers
 ·rw[hd];simp[Act.put,inv.size]
 ·intro j hj hjl e he hlt';rw[hd];simp only[Act.put]
  by_cases hji:j=i
  ·subst hji;rw[hd] at he;cases he;rw[if_pos rfl,Array.getElem?_setIfInBounds_self_of_lt (by rw[inv.size];exact hlt')]
  ·have hne:d≠e:=fun h=>hji (hs.dist j hj i hi e he (h ▸ hd));rw[if_neg hji,Array.getElem?_setIfInBounds_ne hne];exact inv.slot j hj ((hget j hjl).resolve_left hji) e he hlt'
 ·intro e he;have hne:d≠e:=fun h=>he i hi (qf1 hlt false) (h ▸ hd);rw[hd];simp only[Act.put];rw[Array.getElem?_setIfInBounds_ne hne];exact inv.rest e fun j hj hjl=>he j hj (getD_set_true hjl)
 ·intro j hj hjl hjv
  by_cases hji:j=i
  ·subst hji;simp only[if_pos];exact⟨hdep j vs _ v w' hj (fun m hm=>by rw[if_neg (hown m (hdl m hm))]) hR,fun k hk=>⟨(h6 k hk).2.1,(h6 k hk).1⟩⟩
  ·simp only[if_neg hji];have hjl':=(hget j hjl).resolve_left hji;obtain⟨q1,q2⟩:=hkeep j hj hjl' hjv;obtain⟨r1,r2⟩:=inv.holds j hj hjl' q1;exact⟨hdep j vs _ _ w' hj (fun m hm=>by rw[if_neg (hown m (inv.closed j hj hjl' m (hs.dep j hj m hm)))]) <| hloc j vs _ w w' hj r1 inv.below hb' h4 (hfar j hj hjl' q1 q2) (fun he=>⟨h1,h2,h3,h4,fun k hk=>h5 k hk fun m hm=>by rw[he i] at hm;cases hm⟩),fun k hk=>⟨(r2 k hk).1,Nat.lt_of_lt_of_le (r2 k hk).2 h4⟩⟩
 ·-- the blocks are apart
  have hnew:∀ j,j < n→L.getD j false=true→(∀ m,m < n→(L.setIfInBounds i true).getD m false=true→j ∉ eats m)→∀ k,ob i v=some k→ob j (vs j)≠some k:=fun j hj hjl hjv k hk hk'=>by
   obtain⟨q1,q2⟩:=hkeep j hj hjl hjv;have r2:=((inv.holds j hj hjl q1).2 k hk').2;rcases (h6 k hk).2.2 with h | ⟨m,hm,hmk⟩ | h
   ·omega
   ·exact inv.apart m (hdlt m (hs.eat i hi m hm)) (hdl m (hs.eat i hi m hm)) (hlive m hm) j hj hjl q1 (fun e=>q2 (e ▸ hm)) k hmk hk'
   ·exact inv.clean i hun' k h j hj hjl q1 hk'
  intro j hj hjl hjv j' hj' hjl' hjv' hne k hk hk'
  by_cases hji:j=i
  ·subst hji;rw[if_pos rfl] at hk;rw[if_neg (Ne.symm hne)] at hk';exact hnew j' hj' ((hget j' hjl').resolve_left (Ne.symm hne)) hjv' k hk hk'
  ·rw[if_neg hji] at hk;have hjl2:=(hget j hjl).resolve_left hji
   by_cases hji':j'=i
   ·subst hji';rw[if_pos rfl] at hk';exact hnew j hj hjl2 hjv k hk' hk
   ·rw[if_neg hji'] at hk';exact inv.apart j hj hjl2 (hkeep j hj hjl2 hjv).1 j' hj' ((hget j' hjl').resolve_left hji') (hkeep j' hj' ((hget j' hjl').resolve_left hji') hjv').1 hne k hk hk'
 ·intro j hj hj';rw[getD_set_ne true (by omega)];exact inv.nlast j hj hj'
 ·have hi'':L.getD i' false=false:=by
   cases h:L.getD i' false with
   | false=>rfl
   | true=>rw[getD_set_true h] at hi';cases hi'
  have h7:=(inv.hini i' k hk).1;have h8:=inv.below.size;exact(h5 k (by omega) fun m hm=>inv.clean i' hi'' k hk m (hdlt m (hs.eat i hi m hm)) (hdl m (hs.eat i hi m hm)) (hlive m hm)).trans (inv.same i' hi'' k hk)
 ·have hi'':L.getD i' false=false:=by
   cases h:L.getD i' false with
   | false=>rfl
   | true=>rw[getD_set_true h] at hi';cases hi'
  have hne:i≠i':=fun e=>by subst e;rw[qf1 hlt false] at hi';cases hi'
  by_cases hji:j=i
  ·subst hji;simp only[if_pos] at hjk;rcases (h6 k hjk).2.2 with h | ⟨m,hm,hmk⟩ | h
   ·have h7:=(inv.hini i' k hk).1;have h8:=inv.below.size
    omega
   ·exact inv.clean i' hi'' k hk m (hdlt m (hs.eat j hi m hm)) (hdl m (hs.eat j hi m hm)) (hlive m hm) hmk
   ·exact hne (inv.iinj _ _ _ h hk)
  ·rw[if_neg hji] at hjk;have hjl':=(hget j hjl).resolve_left hji;exact inv.clean i' hi'' k hk j hj hjl' (hkeep j hj hjl' hjv).1 hjk
 ·rcases hget k hkl with h | h
  ·subst h;exact getD_set_true (qd9 hr hj)
  ·exact getD_set_true (inv.closed k hk h j hj)
 ·have h8:=inv.below.size;refine(h5 k (by omega) fun m hm hmk=>?_).trans (inv.kp k hk hni);rcases inv.orig m (hdlt m (hs.eat i hi m hm)) (hdl m (hs.eat i hi m hm)) (hlive m hm) k hmk with h | ⟨i',h⟩
  ·omega
  ·exact hni i' h
 ·by_cases hji:j=i
  ·subst hji;simp only[if_pos] at hk;have h8:=inv.below.size;rcases (h6 k hk).2.2 with h | ⟨m,hm,hmk⟩ | h
   ·exact .inl (by omega)
   ·exact inv.orig m (hdlt m (hs.eat j hi m hm)) (hdl m (hs.eat j hi m hm)) (hlive m hm) k hmk
   ·exact .inr ⟨j,h⟩
  ·rw[if_neg hji] at hk;have hjl':=(hget j hjl).resolve_left hji;exact inv.orig j hj hjl' (hkeep j hj hjl' hjv).1 k hk
theorem SInv.given {R:Nat→(Nat→Value)→Value→World→Prop} (hs:SepB ops N n ds eats fl md) {vs:Nat→Value} {L:Array Bool} {a:Act} {w:World} (inv:SInv ops N n eats R ob W B ini a0 vs L a w) {i:Nat} (hi:i < n) (hr:i∈Region.ready .any ops L):GivenB (fun j=>R j vs) ob W B (ini i) vs (ds i) w:=by
 have hun':L.getD i false=false:=getD_both (mem_ready.1 hr).1;have hdl:∀ j∈ds i,L.getD j false=true:=fun j hj=>qd9 hr (hs.dep i hi j hj)
 have hdlt:∀ j∈ds i,j < n:=fun j hj=>by
  obtain⟨_,o,ho,hall⟩:=mem_ready.1 hr;have hw:=hs.dep i hi j hj;unfold qf0 at hw;rw[ho] at hw;obtain⟨e,he,hb⟩:=Array.any_eq_true'.1 hw;simp only[Bool.and_eq_true,beq_iff_eq] at hb;have:=hs.back i (by have:=hs.le;omega) o ho e he hb.1
  omega
 have hlive:∀ j∈ds i,∀ m,m < n→L.getD m false=true→j ∉ eats m:=fun j hj m hm hml hjm=>by
  have:=hs.once m hm j hjm i hi hj;rw[← this,hun'] at hml;cases hml
 exact⟨inv.same i hun',inv.below,fun j hj=>inv.holds j (hdlt j hj) (hdl j hj) (hlive j hj),fun j hj j' hj' hne=>inv.apart j (hdlt j hj) (hdl j hj) (hlive j hj) j' (hdlt j' hj') (hdl j' hj') (hlive j' hj') hne⟩
theorem qr9 {vs:Nat→Value} {l:List Nat} {a:Act} {o:Oper} (ht:∀ d,.tmp d∈o.op.operands→a.tmps[d]?=(frm ops a0 vs l).tmps[d]?):∀ x∈o.op.operands,a.eval x=(frm ops a0 vs l).eval x:=by
 intro x hx
 cases x with
 | tmp d =>
  have:=ht d hx;simp only[Act.eval,Array.getD_eq_getD_getElem?,this]
 | const v=>rfl
 | global g=>rfl
 | func f=>rfl
theorem qi3 {L:Array Bool} {i:Nat} (hi:i < L.size) (h:L.getD i false=true):L.getD i true=true:=by
 simp[hi] at h ⊢;exact h
/-- the tail: each operation qf0 for the one before it -/
theorem wpAny_tail (hs:SepB ops N n ds eats fl 0):∀ (k m:Nat) (L:Array Bool) (a:Act) (w:World),N - m=k→n≤m→m≤N→L.size=N→(∀ j,j < m→L.getD j false=true)→(∀ j,m≤j→j < N→L.getD j true=false) →
  wpList P ops Q (ops.toList.drop m) a w→wpAny P .any ops Q k L a w:=by
 intro k
 induction k with
 | zero =>
  intro m L a w hk hn hm hL h1 h2 h;have hmN:m=N:=by omega
  have h3:Region.ready .any ops L=[]:=List.eq_nil_iff_forall_not_mem.2 fun j hj=>by
   have h0:=(mem_ready.1 hj).1;have hlt:=qi8 hj;rw[qi3 hlt (h1 j (by rw[hL] at hlt;omega))] at h0;cases h0
  rw[List.drop_eq_nil_of_le (by simp[hs.size];omega)] at h;exact⟨h3,h⟩
 | succ k ih =>
  intro m L a w hk hn hm hL h1 h2 h;have hlt:m < ops.size:=by rw[hs.size];omega
  have hrm:m∈Region.ready .any ops L:=mem_ready.2 ⟨h2 m (Nat.le_refl _) (by omega),ops[m],Array.getElem?_eq_getElem hlt,fun e he hb=>h1 _ (hs.back m (by omega) _ (Array.getElem?_eq_getElem hlt) e he hb)⟩;refine⟨fun h0=>?_,fun i hr=>?_⟩
  ·rw[h0] at hrm;cases hrm
  ·have hi:=qi8 hr;rw[hL] at hi
   have him:i=m:=by
    rcases Nat.lt_trichotomy i m with h3 | h3 | h3
    ·have:=(mem_ready.1 hr).1;rw[qi3 (by rw[hL];exact hi) (h1 i h3)] at this;cases this
    ·exact h3
    ·have h4:=qd9 hr (by have:=hs.chain rfl (i - 1) (by omega) (by omega);rwa [show i - 1+1=i by omega] at this);have h5:=getD_both (h2 (i - 1) (by omega) (by omega));rw[h4] at h5;cases h5
   subst him;rw[List.drop_eq_getElem_cons (by simpa using hlt)] at h
   have h':wpOp P ops Q i (wpList P ops Q (ops.toList.drop (i+1))) a w:=by
    unfold wpOp;rw[Array.getElem?_eq_getElem hlt];unfold wpList at h
    simpa using h
   refine wpOp_mono (fun a' w' hq=>ih (i+1) _ a' w' (by omega) (by omega) (by omega) (by simp[hL]) (fun j hj=>?_) (fun j hj hj'=>by rw[getD_set_ne true (by omega)];exact h2 j (by omega) hj') hq) h'
   by_cases hji:i=j
   ·subst hji;exact qf1 (by rw[hL];omega) false
   ·exact getD_set_true (h1 j (by omega))
theorem wpAny_pre {R:Nat→(Nat→Value)→Value→World→Prop} (hs:SepB ops N n ds eats fl md) (hmd:md≠2) (hN:∀ i,i < n→∀ d,qb9 ops i=some d→d < a0.tmps.size)
  (hgd:∀ i,i < n→∀ o,ops[i]?=some o→∀ g b,o.guard=some (g,b)→∀ vs v w,R g vs v w→v=.bool b)
  (hdep:∀ i vs vs' v w,i < n→(∀ j∈ds i,vs j=vs' j)→R i vs v w→R i vs' v w)
  (hloc:∀ i vs v w w',i < n→R i vs v w→Below B W w→Below B W w'→w.heap.size≤w'.heap.size→(∀ k,ob i v=some k→w'.heap[k]?=w.heap[k]?)→((∀ i,eats i=[])→bw w w')→R i vs v w')
  (hstep:∀ i,i < n→∀ o,ops[i]?=some o→∀ vs w,(∀ k,k < W.heap.size→(∀ i,ini i≠some k)→w.heap[k]?=W.heap[k]?)→GivenB (fun j=>R j vs) ob W B (ini i) vs (ds i) w→Made P (LaysB (fun j=>R j vs) ob B ini vs (eats i) i w) ((execOp (frm ops a0 vs (ds i)).eval o).run P w))
  (htail:∀ (f:Nat) (L:Array Bool) (a:Act) (w:World) (vs:Nat→Value),SInv ops N n eats R ob W B ini a0 vs L a w→n∈Region.ready .any ops L→((List.range N).filter fun i=>!(L.setIfInBounds n true).getD i true).length=f→wpOp P ops Q n (wpAny P .any ops Q f (L.setIfInBounds n true)) a w) :
  ∀ (f:Nat) (L:Array Bool) (a:Act) (w:World) (vs:Nat→Value),SInv ops N n eats R ob W B ini a0 vs L a w→((List.range N).filter fun i=>!L.getD i true).length=f→wpAny P .any ops Q f L a w:=by
 intro f
 induction f with
 | zero =>
  intro L a w vs inv hf;have:n∈(List.range N).filter fun i=>!L.getD i true:=List.mem_filter.2 ⟨List.mem_range.2 (hs.lt hmd),by rw[inv.nlast n (Nat.le_refl _) (hs.lt hmd)];rfl⟩;rw[List.length_eq_zero_iff.1 hf] at this;cases this
 | succ f ih =>
  intro L a w vs inv hf
  have hcnt:∀ i,i∈Region.ready .any ops L→((List.range N).filter fun j=>!(L.setIfInBounds i true).getD j true).length=f:=fun i hr=>by
   have hlt:=qi8 hr;have hun:=(mem_ready.1 hr).1
   have h1:((List.range N).filter fun j=>!(L.setIfInBounds i true).getD j true)=((List.range N).filter fun j=>!L.getD j true).filter (· != i):=by
    rw[List.filter_filter];refine List.filter_congr fun j hj=>?_
    by_cases h:i=j
    ·subst h;rw[qf1 hlt]
     simp
    ·rw[getD_set_ne true h]
     simp[Ne.symm h]
   rw[h1];have hnd:((List.range N).filter fun j=>!L.getD j true).Nodup:=List.nodup_range.filter _;have hmem:i∈(List.range N).filter fun j=>!L.getD j true:=List.mem_filter.2 ⟨List.mem_range.2 (by rw[inv.lsize] at hlt;exact hlt),by rw[hun];rfl⟩;rw[← List.Nodup.erase_eq_filter hnd,List.length_erase_of_mem hmem,hf]
   rfl
  refine⟨fun h0=>?_,fun i hr=>?_⟩
  ·-- the least operation that has not come up is ready
   exfalso
   have key:∀ m,m≤n→(∀ j,j < m→L.getD j false=true)→False:=by
    intro m
    induction hm:n - m using Nat.strongRecOn generalizing m with
    | _ k ihk =>
     intro hmn hall
     cases hl:L.getD m true with
     | true =>
      have hmn':m≠n:=fun h=>by rw[h,inv.nlast n (Nat.le_refl _) (hs.lt hmd)] at hl;cases hl
      have hl':L.getD m false=true:=by
       have:m < L.size:=by rw[inv.lsize];have:=hs.lt hmd;omega
       simp[this] at hl ⊢
       exact hl
      exact ihk (n - (m+1)) (by omega) (m+1) rfl (by omega) fun j hj=>by
       by_cases h:j=m
       ·subst h;exact hl'
       ·exact hall j (by omega)
     | false =>
      have:m∈Region.ready .any ops L:=by
       have hlt:m < ops.size:=by rw[hs.size];have:=hs.lt hmd;omega
       exact mem_ready.2 ⟨hl,ops[m],Array.getElem?_eq_getElem hlt,fun e he hb=>hall _ (hs.back m (by have:=hs.lt hmd;omega) _ (Array.getElem?_eq_getElem hlt) e he hb)⟩
      rw[h0] at this;cases this
   exact key 0 (Nat.zero_le _) fun j hj=>by omega
  ·have hlt:=qi8 hr;rw[inv.lsize] at hlt
   by_cases hin:i < n
   ·obtain⟨hun,o,ho,hall⟩:=mem_ready.1 hr;unfold wpOp;rw[ho];simp only[]
    have hw:Region.wanted o (yielded ops a.tmps)=true:=by
     unfold Region.wanted
     cases hgb:o.guard with
     | none=>rfl
     | some p =>
      obtain⟨g,b⟩:=p;have hgi:=hs.guard i hin o ho g b hgb;have hgl:L.getD g false=true:=qd9 hr (hs.dep i hin g hgi)
      have hgn:g < n:=by
       have hw:=hs.dep i hin g hgi;unfold qf0 at hw;rw[ho] at hw;obtain⟨e,he,hb⟩:=Array.any_eq_true'.1 hw;simp only[Bool.and_eq_true,beq_iff_eq] at hb;have:=hs.back i (by have:=hs.lt hmd;omega) o ho e he hb.1
       omega
      have hv:=hgd i hin o ho g b hgb _ _ _ ((inv.given hs hin hr).2.2.1 g hgi).1;obtain⟨d,hd⟩:=hs.dst g hgn;have hsl:=inv.slot g hgn hgl d hd (hN g hgn d hd)
      have hy:yielded ops a.tmps g=some b:=by
       unfold yielded;unfold qb9 at hd;simp only[hd,Option.bind_some,hsl,hv]
      simp only[hy];exact beq_self_eq_true _
    rw[if_pos hw];refine .inl ?_;have hdo:qb9 ops i=o.dst:=by unfold qb9;rw[ho];rfl
    have hsel:=Region.noSelect_spec hs.sel
    have hex:execOp a.eval o=execOp (frm ops a0 vs (ds i)).eval o:=execOp_congr o (fun cs b=>hsel i o cs b ho) (qr9 fun d hd=>by
     have hdl:∀ j∈ds i,L.getD j false=true:=fun j hj=>qd9 hr (hs.dep i hin j hj)
     have hdlt:∀ j∈ds i,j < n:=fun j hj=>by
      have hw:=hs.dep i hin j hj;unfold qf0 at hw;rw[ho] at hw;obtain⟨e,he,hb⟩:=Array.any_eq_true'.1 hw;simp only[Bool.and_eq_true,beq_iff_eq] at hb;have:=hs.back i (by have:=hs.lt hmd;omega) o ho e he hb.1
      omega
     by_cases h:∃ j,j < n∧qb9 ops j=some d
     ·obtain⟨j,hj,hjd⟩:=h;have hm:=hs.opnd i hin o ho d hd j hj hjd;rw[frm_slot hs vs (ds i) hdlt j hm d hjd (hN j hj d hjd),inv.slot j hj (hdl j hm) d hjd (hN j hj d hjd)]
     ·rw[qr0 vs (ds i) d fun j hj hjd=>h ⟨j,hdlt j hj,hjd⟩,inv.rest d fun j hj _ hjd=>h ⟨j,hj,hjd⟩])
    refine qp0 (T:=LaysB (fun j=>R j vs) ob B ini vs (eats i) i w) (by rw[hex];exact hstep i hin o ho vs w inv.kp (inv.given hs hin hr)) fun v w' hl=>?_;have inv':=inv.step hs hdep hloc hin hr hl;rw[hdo] at inv';exact ih _ _ _ _ inv' (hcnt i hr)
   ·obtain rfl:i=n:=by
     rcases Nat.lt_or_ge n i with h | h
     ·obtain⟨g,hg⟩:=hs.late i h hlt
      have h4:=ql8 hr (fun k hk hkl j hj=>by
       rcases Nat.lt_or_ge k n with hkn | hkn
       ·exact inv.closed k hkn hkl j hj
       ·have:=getD_both (inv.nlast k hkn (by omega));rw[hkl] at this
        cases this) g n hg
      have h5:=getD_both (inv.nlast n (Nat.le_refl _) (by omega));rw[h4] at h5;cases h5
     ·omega
    exact htail f L a w vs inv hr (hcnt i hr)
theorem wpAny_sep {R:Nat→(Nat→Value)→Value→World→Prop} (hs:SepB ops N n ds eats (fun _=>false) 0) (hN:∀ i,i < n→∀ d,qb9 ops i=some d→d < a0.tmps.size)
  (hgd:∀ i,i < n→∀ o,ops[i]?=some o→∀ g b,o.guard=some (g,b)→∀ vs v w,R g vs v w→v=.bool b)
  (hdep:∀ i vs vs' v w,i < n→(∀ j∈ds i,vs j=vs' j)→R i vs v w→R i vs' v w)
  (hloc:∀ i vs v w w',i < n→R i vs v w→Below B W w→Below B W w'→w.heap.size≤w'.heap.size→(∀ k,ob i v=some k→w'.heap[k]?=w.heap[k]?)→((∀ i,eats i=[])→bw w w')→R i vs v w')
  (hstep:∀ i,i < n→∀ o,ops[i]?=some o→∀ vs w,(∀ k,k < W.heap.size→(∀ i,ini i≠some k)→w.heap[k]?=W.heap[k]?)→GivenB (fun j=>R j vs) ob W B (ini i) vs (ds i) w→Made P (LaysB (fun j=>R j vs) ob B ini vs (eats i) i w) ((execOp (frm ops a0 vs (ds i)).eval o).run P w))
  (hend:∀ vs w,(∀ k,k < W.heap.size→(∀ i,ini i≠some k)→w.heap[k]?=W.heap[k]?)→Below B W w→(∀ i,i < n→(∀ j,j < n→i ∉ eats j)→R i vs (vs i) w∧∀ k,ob i (vs i)=some k→B≤k∧k < w.heap.size) →
   (∀ i,i < n→(∀ j,j < n→i ∉ eats j)→∀ i',i' < n→(∀ j,j < n→i' ∉ eats j)→i≠i'→∀ k,ob i (vs i)=some k→ob i' (vs i')≠some k)→wpList P ops Q (ops.toList.drop n) (frm ops a0 vs (List.range n)) w) :
  ∀ (f:Nat) (L:Array Bool) (a:Act) (w:World) (vs:Nat→Value),SInv ops N n eats R ob W B ini a0 vs L a w→((List.range N).filter fun i=>!L.getD i true).length=f→wpAny P .any ops Q f L a w:=by
 refine wpAny_pre hs (by decide) hN hgd hdep hloc hstep fun f L a w vs inv hr hcnt=>?_
 obtain⟨i,hin⟩:∃ i,i=n:=⟨_,rfl⟩
 rw[← hin] at hr hcnt ⊢;subst hin;have hlt:=hs.lt (by decide);have hall:∀ j,j < i→L.getD j false=true:=fun j hj=>ql8 hr inv.closed _ j (hs.last (by decide) j hj rfl)
 have hae:a=frm ops a0 vs (List.range i):=by
  have h1:a.tmps=(frm ops a0 vs (List.range i)).tmps:=by
   refine Array.ext_getElem? fun d=>?_
   by_cases h:∃ j,j < i∧qb9 ops j=some d
   ·obtain⟨j,hj,hjd⟩:=h;rw[frm_slot hs vs (List.range i) (fun k hk=>List.mem_range.1 hk) j (List.mem_range.2 hj) d hjd (hN j hj d hjd),inv.slot j hj (hall j hj) d hjd (hN j hj d hjd)]
   ·rw[qr0 vs (List.range i) d fun j hj hjd=>h ⟨j,List.mem_range.1 hj,hjd⟩,inv.rest d fun j hj _ hjd=>h ⟨j,hj,hjd⟩]
  have h2:a.defers=(frm ops a0 vs (List.range i)).defers:=by rw[frm_defers,inv.defers]
  cases a;cases hq:frm ops a0 vs (List.range i);rw[hq] at h1 h2;simp only at h1 h2;rw[h1,h2]
 have hall':∀ j,j < i+1→(L.setIfInBounds i true).getD j false=true:=fun j hj=>by
  by_cases hji:i=j
  ·subst hji;exact qf1 (by rw[inv.lsize];omega) false
  ·exact getD_set_true (hall j (by omega))
 have hrest:∀ j,i+1≤j→j < N→(L.setIfInBounds i true).getD j true=false:=fun j hj hj'=>by
  rw[getD_set_ne true (by omega)];exact inv.nlast j (by omega) hj'
 have hf0:N - (i+1)=f:=by
  have:=hcnt
  have hsplit:List.range N=List.range (i+1)++(List.range (N - (i+1))).map (i+1+·):=by
   rw[← List.range_add];congr 1;omega
  rw[hsplit,List.filter_append,List.length_append] at this
  have e1:((List.range (i+1)).filter fun j=>!(L.setIfInBounds i true).getD j true)=[]:=by
   refine List.filter_eq_nil_iff.2 fun j hj=>?_;have hj':=List.mem_range.1 hj;rw[qi3 (by simp[inv.lsize];omega) (hall' j hj')]
   simp
  have e2:(((List.range (N - (i+1))).map (i+1+·)).filter fun j=>!(L.setIfInBounds i true).getD j true)=(List.range (N - (i+1))).map (i+1+·):=by
   refine List.filter_eq_self.2 fun j hj=>?_;obtain⟨j',hj',rfl⟩:=List.mem_map.1 hj;have:=List.mem_range.1 hj';rw[hrest _ (by omega) (by omega)]
   rfl
  rw[e1,e2] at this
  simpa using this
 rw[hae];have hfin:=hend vs w inv.kp inv.below (fun j hj hv=>inv.holds j hj (hall j hj) fun m hm _=>hv m hm) fun j hj hv j' hj' hv' hne=>inv.apart j hj (hall j hj) (fun m hm _=>hv m hm) j' hj' (hall j' hj') (fun m hm _=>hv' m hm) hne;have hlt2:i < ops.size:=by rw[hs.size];omega
 rw[List.drop_eq_getElem_cons (by simpa using hlt2)] at hfin
 have h':wpOp P ops Q i (wpList P ops Q (ops.toList.drop (i+1))) (frm ops a0 vs (List.range i)) w:=by
  unfold wpOp;rw[Array.getElem?_eq_getElem hlt2];unfold wpList at hfin
  simpa using hfin
 exact wpOp_mono (fun a' w' h=>wpAny_tail hs f (i+1) _ a' w' hf0 (by omega) (by omega) (by simp[inv.lsize]) hall' hrest h) h'
/-- **A region that draws its order**: the operations but the last are proved one by one, the last behind all. -/
theorem wp_region_sepB {id:Nat} {a0:Act} {W:World} {l:List Oper} (n:Nat) (ds eats:Nat→List Nat) (R:Nat→Value→World→Prop) (ob:Nat→Value→Option Nat) (B:Nat) (ini:Nat→Option Nat) (hm:P.follows .mixedOrders=true) (hBB:sepB l.toArray l.length n ds eats=true)
  (hN:(List.range n).all (fun i=>match qb9 l.toArray i with | some d=>decide (d < a0.tmps.size) | none=>true)=true)
  (hB:B≤W.heap.size) (hini:∀ i k,ini i=some k→k < W.heap.size∧B≤k) (iinj:∀ i i' k,ini i=some k→ini i'=some k→i=i')
  (hloc:∀ i v w w',i < n→R i v w→Below B W w→Below B W w'→w.heap.size≤w'.heap.size→(∀ k,ob i v=some k→w'.heap[k]?=w.heap[k]?)→R i v w')
  (hstep:∀ i,i < n→∀ o,l[i]?=some o→∀ vs w,GivenB R ob W B (ini i) vs (ds i) w→Made P (LaysB R ob B ini vs (eats i) i w) ((execOp (frm l.toArray a0 vs (ds i)).eval o).run P w))
  (hend:∀ vs w,Below B W w→(∀ i,i < n→(∀ j,j < n→i ∉ eats j)→R i (vs i) w∧∀ k,ob i (vs i)=some k→B≤k∧k < w.heap.size) →
   (∀ i,i < n→(∀ j,j < n→i ∉ eats j)→∀ i',i' < n→(∀ j,j < n→i' ∉ eats j)→i≠i'→∀ k,ob i (vs i)=some k→ob i' (vs i')≠some k)→wpList P l.toArray Q (l.drop n) (frm l.toArray a0 vs (List.range n)) w) :
  (Code.region id l.toArray true).wp P Q a0 W:=by
 have hs:=SepB.of hBB;refine wp_region_any hm ?_;refine wpAny_sep (R:=fun i _=>R i) (W:=W) hs (fun i hi d hd=>?_) (fun i hi o ho g b hgb=>by rw[sepB_bare hBB i hi o ho] at hgb;cases hgb) (fun _ _ _ _ _ _ _ h=>h) (fun i _ v w w' a b c d e f _=>hloc i v w w' a b c d e f) (fun i hi o ho vs w _=>hstep i hi o (by simpa using ho) vs w) (fun vs w _ h1 h2 h3=>by simpa using hend vs w h1 h2 h3) _ _ _ _ (fun _=>undef) ⟨rfl,rfl,fun i _ h=>?_,fun _ _=>rfl,⟨rfl,rfl,rfl,Nat.le_refl _,fun _ _=>rfl⟩,fun i _ h=>?_,fun i _ h=>?_,by simp,fun j hj hj'=>by simp[hj'],hB,hini,iinj,fun _ _ _ _=>rfl,fun i _ k _ j _ h=>?_,fun k _ h=>?_,fun _ _ _=>rfl,fun i _ h=>?_⟩ ?_
 ·have:=List.all_eq_true.1 hN i (List.mem_range.2 hi);rw[hd] at this
  simpa using this
 ·rw[getD_replicate_false] at h;cases h
 ·rw[getD_replicate_false] at h;cases h
 ·rw[getD_replicate_false] at h;cases h
 ·rw[getD_replicate_false] at h;cases h
 ·rw[getD_replicate_false] at h;cases h
 ·rw[getD_replicate_false] at h;cases h
 ·rw[hs.size]
  have:((List.range l.length).filter fun i=>!(Array.replicate l.length false).getD i true)=List.range l.length:=by
   refine List.filter_eq_self.2 fun i hi=>?_;have:=List.mem_range.1 hi
   simp[this]
  rw[this]
  simp
/-- what it has to lay -/
def Lays (R:Nat→Value→World→Prop) (ob:Nat→Value→Option Nat) (W:World) (vs:Nat→Value) (eat:List Nat) (i:Nat) (w:World) (v:Value) (w':World):Prop :=
 R i v w'∧w'.os=w.os∧w'.tape=w.tape∧w'.output=w.output∧w.heap.size≤w'.heap.size∧(∀ k,k < w.heap.size→(∀ j∈eat,ob j (vs j)≠some k)→w'.heap[k]?=w.heap[k]?) ∧
 ∀ k,ob i v=some k→k < w'.heap.size∧W.heap.size≤k∧(w.heap.size≤k ∨ ∃ j∈eat,ob j (vs j)=some k)
theorem Made.mono {P:Program} {T T':Value→World→Prop} {r:Result Next} (h:Made P T r) (hT:∀ v w,T v w→T' v w):Made P T' r:=by
 cases r with
 | ok n w' =>
  cases n <;> simp only[Made] at h ⊢
  case value v=>exact hT _ _ h
  case skip=>exact hT _ _ h
  case enter f args=>exact Calls.mono h fun e w'' ⟨v,he,hv⟩=>⟨v,he,hT _ _ hv⟩
  case row r args=>exact Rows.mono h hT
 | halt x w'=>simp only[Made] at h
/-- what an operation of a region that only adds memory leaves: a property of its value (and of values that it reads) that more memory leaves alone, and the block that is its own -/
structure Ent (W:World) where
 dl:List Nat
 R:(Nat→Value)→Value→World→Prop
 ob:Value→Option Nat
 loc:∀ vs v w w',R vs v w→bw W w→bw w w'→R vs v w'
 dep:∀ vs vs' v w,(∀ j∈dl,vs j=vs' j)→R vs v w→R vs' v w
/-- **A region that draws its order, whose operations ahead of the tail only add memory.** -/
theorem qm8 {id:Nat} {a0:Act} {W:World} {l:List Oper} (n:Nat) (ds:Nat→List Nat) (E:Nat→Ent W) (hm:P.follows .mixedOrders=true) (hBB:sepG true l.toArray l.length n ds (fun _=>[])=true)
  (hgd:∀ i,i < n→∀ o,l[i]?=some o→∀ g b,o.guard=some (g,b)→∀ vs v w,(E g).R vs v w→v=.bool b)
  (hdl:(List.range n).all (fun i=>(E i).dl.all ((ds i).contains ·))=true)
  (hN:(List.range n).all (fun i=>match qb9 l.toArray i with | some d=>decide (d < a0.tmps.size) | none=>true)=true)
  (hstep:∀ i,i < n→∀ o,l[i]?=some o→∀ vs w,bw W w→(∀ j∈ds i,(E j).R vs (vs j) w)→Made P (fun v w'=>(E i).R vs v w'∧bw w w'∧∀ k,(E i).ob v=some k→w.heap.size≤k∧k < w'.heap.size) ((execOp (frm l.toArray a0 vs (ds i)).eval o).run P w))
  (hend:∀ vs w,bw W w→(∀ i,i < n→(E i).R vs (vs i) w∧∀ k,(E i).ob (vs i)=some k→W.heap.size≤k∧k < w.heap.size)→(∀ i,i < n→∀ i',i' < n→i≠i'→∀ k,(E i).ob (vs i)=some k→(E i').ob (vs i')≠some k)→wpList P l.toArray Q (l.drop n) (frm l.toArray a0 vs (List.range n)) w) :
  (Code.region id l.toArray true).wp P Q a0 W:=by
 have hs:=SepB.ofG hBB;refine wp_region_any hm ?_;refine wpAny_sep (W:=W) (R:=fun i=>(E i).R) (ob:=fun i=>(E i).ob) (B:=W.heap.size) (ini:=fun _=>none) hs (fun i hi d hd=>?_) (fun i hi o ho=>hgd i hi o (by simpa using ho)) (fun i vs vs' v w hi hj h=>(E i).dep vs vs' v w (fun j hj'=>hj j ?_) h) (fun i vs v w w' _ hR hb hb' _ _ hx=>(E i).loc vs v w w' hR hb (hx fun _=>rfl)) (fun i hi o ho vs w _ hg=>(hstep i hi o (by simpa using ho) vs w hg.2.1 fun j hj=>(hg.2.2.1 j hj).1).mono fun v w' h=>⟨h.1,h.2.1.os,h.2.1.tape,h.2.1.output,h.2.1.size,fun k hk _=>h.2.1.block k hk,fun k hk=>⟨(h.2.2 k hk).2,Nat.le_trans hg.2.1.size (h.2.2 k hk).1,.inl (h.2.2 k hk).1⟩⟩) (fun vs w _ h1 h2 h3=>by simpa using hend vs w h1 (fun i hi=>h2 i hi (fun j _ h=>by cases h)) fun i hi i' hi' hne k hk=>h3 i hi (fun j _ h=>(by cases h)) i' hi' (fun j _ h=>(by cases h)) hne k hk) _ _ _ _ (fun _=>undef) ⟨rfl,rfl,fun i _ h=>?_,fun _ _=>rfl,⟨rfl,rfl,rfl,Nat.le_refl _,fun _ _=>rfl⟩,fun i _ h=>?_,fun i _ h=>?_,by simp,fun j hj hj'=>by simp[hj'],Nat.le_refl _,(fun _ _ h=>by cases h),(fun _ _ _ h=>by cases h),(fun _ _ _ _=>rfl),fun i _ k _ j _ h=>?_,fun k _ h=>?_,fun _ _ _=>rfl,fun i _ h=>?_⟩ ?_
 ·have:=List.all_eq_true.1 hN i (List.mem_range.2 hi);rw[hd] at this
  simpa using this
 ·have:=List.all_eq_true.1 (List.all_eq_true.1 hdl i (List.mem_range.2 hi)) j hj'
  simpa using this
 ·rw[getD_replicate_false] at h;cases h
 ·rw[getD_replicate_false] at h;cases h
 ·rw[getD_replicate_false] at h;cases h
 ·rw[getD_replicate_false] at h;cases h
 ·rw[getD_replicate_false] at h;cases h
 ·rw[getD_replicate_false] at h;cases h
 ·rw[hs.size]
  have:((List.range l.length).filter fun i=>!(Array.replicate l.length false).getD i true)=List.range l.length:=by
   refine List.filter_eq_self.2 fun i hi=>?_;have:=List.mem_range.1 hi
   simp[this]
  rw[this]
  simp
end
end
section
open Go.RowKit
theorem ownSls {w:World} {base:Nat} {e:TypeId} {s n:Nat} {v:Value} {xs:List Value} (h:w.ownsRow base e s v n xs) (hn:0 < n):∃ g cap,v=.slice (some ⟨g,0,none⟩) n cap∧n≤cap∧base≤g∧g < w.heap.size∧Sl w s (some ⟨g,0,none⟩) n xs:=by
 have hlt:=h.lt;have hcl:=fun g=>h.cells (g:=g);obtain⟨h1,h2 | ⟨g,cap,cur,rfl,h3,_,h5,_⟩⟩:=h
 ·omega
 ·exact⟨g,cap,rfl,h5,h3,(hlt g rfl).2,h1,.inr ⟨g,0,rfl,(hlt g rfl).2,fun j x hx=>by
   have:=hcl g rfl j x hx;unfold Addr.add at this
   split at this
   ·next h0=>subst h0;exact this
   ·exact this⟩⟩
theorem Bk.here (w:World) (t:TypeId) (cs:Array Value) {g:Nat} (hg:g=w.heap.size):Bk (w.alloc (.cells cs t)) g t cs:=by subst hg;exact Bk.new w t cs
theorem ownEmpty {w:World} {g base:Nat} {e:TypeId} (s:Nat) (h:Bk w g e #[]) (hb:base≤g):w.ownsRow base e s (.slice (some ⟨g,0,none⟩) 0 0) 0 [] :=
 ⟨by simp,.inr ⟨g,0,#[],rfl,hb,h,Nat.le_refl _,Nat.zero_le _,by simp,by simp⟩⟩
theorem cellsAdd {w:World} {b o:Nat} {fl:List Value} (h:∀ j v,fl[j]?=some v→w.cell? ⟨b,o+j,none⟩=some v):∀ j u,fl[j]?=some u→w.cell? ((⟨b,o,none⟩:Addr).add j)=some u:=by
 intro j u hj;have:=h j u hj;unfold Addr.add
 split
 ·next h0=>subst h0;simpa using this
 ·exact this
end
section
open Go.RowKit
section
variable {P:Program} {w:World}
theorem append_run {base:Nat} {t ty e:TypeId} {i:TypeInfo} {z:Value} {size bytes:Nat} (ht:P.underlying t=some (.slice e)) (hi:P.info? e=some i) (hz:i.zero=some z)
  (hsize:i.size=size) (hby:i.bytes=bytes) (hzs:z.cells.size=size) (hsz:0 < size)
  {v:Value} {n:Nat} {xs:List Value} (hown:w.ownsRow base e size v n xs) {A:Option Addr} {m c:Nat} {news:List Value} (hs:Sl w size A m news) (h1:∀ u∈news,u.oneCell'=true)
  (h63:n+m≤maxLen) (hbytes:(n+m)*bytes≤140737488355328) (hbase:base≤w.heap.size) :
  ∃ v' w',(Builtin.append_ #[t,t] ty #[v,.slice A m c]).run P w=.ok v' w'∧w'.ownsRow base e size v' (n+m) (xs++news)∧w.grownBy w' v.ownBlock∧(v'.ownBlock=v.ownBlock ∨ v'.ownBlock=some w.heap.size):=by
 cases A with
 | some ad =>
  have hc:∀ j u,news[j]?=some u→w.cell? (ad.add j)=some u:=fun j u hu=>by
   have hlt:=(List.getElem?_eq_some_iff.1 hu).1;rw[hs.1] at hlt;rcases Nat.eq_zero_or_pos m with h0 | h0
   ·rw[h0] at hlt;omega
   ·obtain⟨b,o,he,_,hcc⟩:=hs.get h0;cases he;exact cellsAdd hcc j u hu
  obtain⟨v',w',r1,r2,r3,_,r4⟩:=run_append_own_at (P:=P) w base t ty e i z size bytes ht hi hz hsize hby hzs hsz v n xs hown ad m c news hs.1 hc h1 h63 hbytes hbase;exact⟨v',w',r1,r2,r3,r4⟩
 | none =>
  have h0:m=0:=by
   rcases hs.2 with h | ⟨_,_,h,_⟩
   ·exact h
   ·cases h
  subst h0;have hn:news=[]:=List.length_eq_zero_iff.1 (by rw[hs.1,Nat.zero_mul]);subst hn;refine⟨v,w,?_,by rw[List.append_nil];exact hown,⟨rfl,rfl,rfl,Nat.le_refl _,fun _ _ _=>rfl⟩,.inl rfl⟩;rcases hown.2 with ⟨rfl,rfl⟩ | ⟨g,cap,cur,rfl,_,_,hnc,_⟩
  ·simp[Builtin.append_,run_underlying ht,sizeOf,typeInfo,hi,Builtin.lenOf,Builtin.firstCells]
  ·simp[Builtin.append_,run_underlying ht,sizeOf,typeInfo,hi,Builtin.lenOf,Builtin.firstCells,hnc,storeCells]
theorem qc1 {base:Nat} {e:TypeId} {size n:Nat} {v:Value} {xs:List Value} (h:w.ownsRow base e size v n xs):∃ A c,v=.slice A n c∧n≤c:=by
 rcases h.2 with ⟨rfl,rfl⟩ | ⟨g,cap,cur,rfl,_,_,h5,_⟩
 ·exact⟨_,_,rfl,Nat.le_refl _⟩
 ·exact⟨_,_,rfl,h5⟩
theorem qj8 {w':World} {base:Nat} {e:TypeId} {size n:Nat} {v:Value} {xs:List Value} (h:w.ownsRow base e size v n xs) (hb:∀ k,v.ownBlock=some k→w'.heap[k]?=w.heap[k]?):w'.ownsRow base e size v n xs:=by
 obtain⟨h1,h2 | ⟨g,cap,cur,rfl,h3,h4,h5⟩⟩:=h
 ·exact⟨h1,.inl h2⟩
 ·exact⟨h1,.inr ⟨g,cap,cur,rfl,h3,by rw[hb g rfl];exact h4,h5⟩⟩
theorem own_sl {base:Nat} {e:TypeId} {size n c:Nat} {A:Option Addr} {xs:List Value} (h:w.ownsRow base e size (.slice A n c) n xs):Sl w size A n xs:=by
 rcases Nat.eq_zero_or_pos n with h0 | h0
 ·subst h0;exact⟨h.1,.inl rfl⟩
 ·obtain⟨g,cap,hv,_,_,_,hs⟩:=ownSls h h0;cases hv;exact hs
/-- the block of a value -/
def blkOf:Value→Option Nat
 | .slice (some a) _ _=>some a.block
 | .pointer (some a)=>some a.block
 | .agg #[.slice (some a) _ _]=>some a.block
 | _=>none
/-- append, as a step -/
theorem qg9 {T:Value→World→Prop} {o:Oper} {a:Act} (s x:Operand) (t:TypeId) (ho:o.op=.call { callee:=.builtin .append,args:=#[s,x],argTypes:=#[t,t] })
  {base:Nat} {e:TypeId} {i:TypeInfo} {z:Value} {size bytes:Nat} (ht:P.underlying t=some (.slice e)) (hi:P.info? e=some i) (hz:i.zero=some z)
  (hsize:i.size=size) (hby:i.bytes=bytes) (hzs:z.cells.size=size) (hsz:0 < size)
  {v:Value} {n:Nat} {xs:List Value} (hv:a.eval s=v) (hown:w.ownsRow base e size v n xs) {A:Option Addr} {m c:Nat} {news:List Value} (hx:a.eval x=.slice A m c) (hs:Sl w size A m news) (h1:∀ u∈news,u.oneCell'=true)
  (h63:n+m≤maxLen) (hbytes:(n+m)*bytes≤140737488355328) (hbase:base≤w.heap.size)
  (h:∀ v' w',w'.ownsRow base e size v' (n+m) (xs++news)→w.grownBy w' v.ownBlock→(v'.ownBlock=v.ownBlock ∨ v'.ownBlock=some w.heap.size)→T v' w'):Made P T ((execOp a.eval o).run P w):=by
 obtain⟨v',w',hrun,h2,h3,h4⟩:=append_run (P:=P) (ty:=o.type) ht hi hz hsize hby hzs hsz hown hs h1 h63 hbytes hbase (c:=c);unfold execOp;simp only[ho,resolve,invoke,builtin,Sem.run_bind,Sem.run_pure,Result.andThen_ok,List.map_toArray,List.map_cons,List.map_nil,hv,hx,hrun];exact h v' w' h2 h3 h4
/-- append in a plain region -/
theorem wpList_app {ops:Array Oper} {rest:List Oper} {o:Oper} {a:Act} {Q:Exit→Act→World→Prop} (hgd:o.guard=none) (s x:Operand) (t:TypeId) (ho:o.op=.call { callee:=.builtin .append,args:=#[s,x],argTypes:=#[t,t] })
  {base:Nat} {e:TypeId} {i:TypeInfo} {z:Value} {size bytes:Nat} (ht:P.underlying t=some (.slice e)) (hi:P.info? e=some i) (hz:i.zero=some z)
  (hsize:i.size=size) (hby:i.bytes=bytes) (hzs:z.cells.size=size) (hsz:0 < size)
  {v:Value} {n:Nat} {xs:List Value} (hv:a.eval s=v) (hown:w.ownsRow base e size v n xs) {A:Option Addr} {m c:Nat} {news:List Value} (hx:a.eval x=.slice A m c) (hs:Sl w size A m news) (h1:∀ u∈news,u.oneCell'=true)
  (h63:n+m≤maxLen) (hbytes:(n+m)*bytes≤140737488355328) (hbase:base≤w.heap.size)
  (h:∀ v' w',w'.ownsRow base e size v' (n+m) (xs++news)→w.grownBy w' v.ownBlock→(v'.ownBlock=v.ownBlock ∨ v'.ownBlock=some w.heap.size)→wpList P ops Q rest (a.put o.dst v') w'):wpList P ops Q (o::rest) a w :=
 wpList_plain hgd fun _ hK=>qp0 (T:=fun v' w'=>wpList P ops Q rest (a.put o.dst v') w') (qg9 s x t ho ht hi hz hsize hby hzs hsz hv hown hx hs h1 h63 hbytes hbase h) fun v w' hT=>hK _ _ hT
section
variable {R:Nat→Value→World→Prop} {ob:Nat→Value→Option Nat} {W:World} {vs:Nat→Value} {eat:List Nat} {i:Nat} {v:Value}
end
end
end
section
open Go.RowKit
theorem qa5 {P:Program} {T:Value→World→Prop} {v:Value} {w':World} (h:T v w'):Made P T (.ok (.value v) w'):=h
section
variable {w w' W:World} {R:Nat→Value→World→Prop} {ob:Nat→Value→Option Nat} {B:Nat} {ini:Nat→Option Nat} {vs:Nat→Value} {eat:List Nat} {i:Nat} {v:Value}
end
end
end Go.Proofs.YtmbnlccafcfbeaaGreatDoor
