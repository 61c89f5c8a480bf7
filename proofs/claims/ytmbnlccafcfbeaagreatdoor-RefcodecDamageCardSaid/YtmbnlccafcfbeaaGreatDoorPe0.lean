/- Parts of the proof: Mem, KpD, WireP. -/
import Derived.Deep.Draws
import Derived.KernelRfl
import Derived.Laws.AppendOwn
import Derived.Lib.Hide
import Derived.Test.YtmbnlccafcfbeaaGreatDoorPeA
import Derived.WalkKit
set_option linter.unusedVariables false
set_option linter.unusedSimpArgs false
set_option linter.unusedSectionVars false
set_option maxRecDepth 100000
namespace Go.Proofs.YtmbnlccafcfbeaaGreatDoor
section
open Go.RowKit
/-- The slice value with address A and n elements of s cells reads as the cells xs in the world w. -/
def Sl (w:World) (s:Nat) (A:Option Addr) (n:Nat) (xs:List Value):Prop :=
 xs.length=n*s∧(n=0 ∨ ∃ b o,A=some ⟨b,o,none⟩∧b < w.heap.size∧∀ j x,xs[j]?=some x→w.cell? ⟨b,o+j,none⟩=some x)
theorem cell_lt {w:World} {p:Addr} {v:Value} (h:w.cell? p=some v):p.block < w.heap.size:=by
 rcases Nat.lt_or_ge p.block w.heap.size with h1 | h1
 ·exact h1
 ·rw[World.cell?,Array.getElem?_eq_none h1] at h;cases h
theorem Sl.nil (w:World) (s:Nat) (A:Option Addr):Sl w s A 0 []:=⟨by simp,.inl rfl⟩
theorem Sl.get {w:World} {s n:Nat} {A:Option Addr} {xs:List Value} (h:Sl w s A n xs) {k:Nat} (hk:k < n) :
  ∃ b o,A=some ⟨b,o,none⟩∧b < w.heap.size∧∀ j x,xs[j]?=some x→w.cell? ⟨b,o+j,none⟩=some x:=by
 rcases h.2 with h0 | h0
 ·omega
 ·exact h0
theorem Sl.keep {w w':World} {s n:Nat} {A:Option Addr} {xs:List Value} (h:Sl w s A n xs) (hs:w.heap.size≤w'.heap.size)
  (hk:∀ b o v,w.cell? ⟨b,o,none⟩=some v→w'.cell? ⟨b,o,none⟩=some v):Sl w' s A n xs:=by
 refine⟨h.1,?_⟩
 rcases h.2 with h0 | ⟨b,o,e,hb,hc⟩
 ·exact .inl h0
 ·exact .inr ⟨b,o,e,by omega,fun j x hx=>hk _ _ _ (hc j x hx)⟩
theorem Sl.below {w w':World} {s n:Nat} {A:Option Addr} {xs:List Value} (h:Sl w s A n xs) (hb:Below w.heap.size w w'):Sl w' s A n xs :=
 h.keep hb.size fun b o v hv=>(hb.cell (p:=⟨b,o,none⟩) (cell_lt hv)).trans hv
theorem Sl.drewN {w:World} {s n:Nat} {A:Option Addr} {xs:List Value} (h:Sl w s A n xs) (k:Nat):Sl (w.drewN k) s A n xs:=h
theorem Sl.new (w:World) (t:TypeId) (xs:List Value):Sl (w.alloc (.cells xs.toArray t)) 1 (some ⟨w.heap.size,0,none⟩) xs.length xs :=
 ⟨by simp,.inr ⟨_,_,rfl,by simp,fun j x hx=>by simpa using hx⟩⟩
theorem below_drewN {B:Nat} {a w:World} (h:Below B a w) (n:Nat):Below B a (w.drewN n):=⟨h.os,h.tape,h.output,h.size,h.block⟩
theorem bcell {W w1:World} (hb:Below W.heap.size W w1):(∀ b o,b < W.heap.size→w1.cell? ⟨b,o,none⟩=W.cell? ⟨b,o,none⟩)∧(∀ b o,b < W.heap.size→w1.frozen? ⟨b,o,none⟩=W.frozen? ⟨b,o,none⟩) :=
 ⟨fun b o h=>hb.cell (p:=⟨b,o,none⟩) h,fun b o h=>hb.frozen (p:=⟨b,o,none⟩) h⟩
/-- Block g is just the cells cs of element type t, none frozen. -/
def Bk (w:World) (g:Nat) (t:TypeId) (cs:Array Value):Prop:=w.heap[g]?=some (.cells cs t (0,0))
section
variable {w w':World} {g:Nat} {t:TypeId} {cs:Array Value}
theorem Bk.lt (h:Bk w g t cs):g < w.heap.size:=(Array.getElem?_eq_some_iff.1 h).1
theorem Bk.cell (h:Bk w g t cs) (i:Nat):w.cell? ⟨g,i,none⟩=cs[i]?:=by unfold Bk at h;simp[World.cell?,h]
theorem Bk.free (h:Bk w g t cs) (i:Nat):w.frozen? ⟨g,i,none⟩=false:=by unfold Bk at h;simp[World.frozen?,h]
theorem Bk.new (w:World) (t:TypeId) (cs:Array Value):Bk (w.alloc (.cells cs t)) w.heap.size t cs:=by show(w.heap.push _)[w.heap.size]?=_;simp
theorem Bk.alloc (h:Bk w g t cs) (o:Obj):Bk (w.alloc o) g t cs:=(Below.heap_alloc w o g h.lt).trans h
theorem Bk.set (h:Bk w g t cs) (i:Nat) (u:Value):Bk (w.setCell ⟨g,i,none⟩ u) g t (cs.setIfInBounds i u):=by
 unfold Bk at h ⊢
 simp[World.setCell,Array.getElem?_modify,h]
theorem Bk.far (h:Bk w g t cs) {p:Addr} (hp:g≠p.block) (u:Value):Bk (w.setCell p u) g t cs:=(Below.heap_setCell w p u g hp).trans h
theorem Bk.below {B:Nat} (h:Bk w g t cs) (hb:Below B w w') (hg:g < B):Bk w' g t cs:=(hb.block g hg).trans h
end
end
section
open Go.RowKit
/-- w' is w but for the blocks of S and new ones -/
structure Kp (S:Nat→Prop) (w w':World):Prop where
 os:w'.os=w.os
 tape:w'.tape=w.tape
 output:w'.output=w.output
 size:w.heap.size≤w'.heap.size
 block:∀ k,k < w.heap.size→¬ S k→w'.heap[k]?=w.heap[k]?
section
variable {S T:Nat→Prop} {w w1 w2:World}
theorem Kp.refl (S:Nat→Prop) (w:World):Kp S w w:=⟨rfl,rfl,rfl,Nat.le_refl _,fun _ _ _=>rfl⟩
theorem Kp.of_below (h:Below w.heap.size w w1):Kp S w w1:=⟨h.os,h.tape,h.output,h.size,fun k hk _=>h.block k hk⟩
theorem Kp.of_grown {row:Option Nat} (h:w.grownBy w1 row) (hr:∀ k,row=some k→S k):Kp S w w1:=⟨h.os,h.tape,h.output,h.size,fun k hk hn=>h.block k hk fun e=>hn (hr k e.symm)⟩
theorem Kp.mono (h:Kp S w w1) (hs:∀ k,k < w.heap.size→S k→T k):Kp T w w1:=⟨h.os,h.tape,h.output,h.size,fun k hk hn=>h.block k hk fun hS=>hn (hs k hk hS)⟩
theorem Kp.trans (h:Kp S w w1) (h':Kp T w1 w2) (hs:∀ k,k < w.heap.size→T k→S k):Kp S w w2 :=
 ⟨h'.os.trans h.os,h'.tape.trans h.tape,h'.output.trans h.output,Nat.le_trans h.size h'.size,fun k hk hn=>(h'.block k (Nat.lt_of_lt_of_le hk h.size) fun hT=>hn (hs k hk hT)).trans (h.block k hk hn)⟩
theorem Kp.toBelow {B:Nat} {w0:World} (h:Kp S w w1) (hb:Below B w0 w) (hB:B≤w.heap.size) (hS:∀ k,S k→B≤k):Below B w0 w1 :=
 ⟨h.os.trans hb.os,h.tape.trans hb.tape,h.output.trans hb.output,Nat.le_trans hb.size h.size,fun k hk=>(h.block k (Nat.lt_of_lt_of_le hk hB) fun hk'=>by have:=hS k hk';omega).trans (hb.block k hk)⟩
theorem Kp.drew (h:Kp S w w1):Kp S w w1.drew:=⟨h.os,h.tape,h.output,h.size,h.block⟩
theorem Kp.cell {a:Addr} {v:Value} (h:Kp S w w1) (hc:w.cell? a=some v) (hn:¬ S a.block):w1.cell? a=some v:=by
 rw[World.cell?_of_block (h.block a.block (cell_lt hc) hn)];exact hc
theorem Bk.kp {g:Nat} {t:TypeId} {cs:Array Value} (h:Bk w g t cs) (hk:Kp S w w1) (hn:¬ S g):Bk w1 g t cs:=(hk.block g h.lt hn).trans h
theorem Kp.setCell (w:World) (a:Addr) (v:Value) (h:S a.block):Kp S w (w.setCell a v):=⟨rfl,rfl,rfl,by simp[World.setCell],fun k _ hn=>Below.heap_setCell w a v k (fun e=>hn (e ▸ h))⟩
end
end
section
def digs (n:Nat):List Int:=if h:n=0 then [] else digs (n / 256)++[((n % 256:Nat):Int)]
termination_by n
decreasing_by omega
theorem digs_zero:digs 0=[]:=by rw[digs,dif_pos rfl]
theorem digs_pos {n:Nat} (h:n≠0):digs n=digs (n / 256)++[((n % 256:Nat):Int)]:=by rw[digs,dif_neg h]
def encU (n:Int):List Int:=((digs n.toNat).length:Int)::digs n.toNat
def val (l:List Int):Int:=l.foldl (fun a x=>a*256+x) 0
theorem val_snoc (l:List Int) (x:Int):val (l++[x])=val l*256+x:=by simp[val]
def B8 (l:List Int):Prop:=∀ x∈l,0≤x∧x≤255
theorem B8.nil:B8 []:=fun x h=>(by cases h)
theorem B8.app {l k:List Int} (h:B8 l) (h':B8 k):B8 (l++k):=fun x hx=>(List.mem_append.1 hx).elim (h x) (h' x)
theorem B8.left {l k:List Int} (h:B8 (l++k)):B8 l:=fun x hx=>h x (List.mem_append.2 (.inl hx))
theorem B8.right {l k:List Int} (h:B8 (l++k)):B8 k:=fun x hx=>h x (List.mem_append.2 (.inr hx))
theorem B8.take {l:List Int} (h:B8 l) (k:Nat):B8 (l.take k):=fun x hx=>h x (List.mem_of_mem_take hx)
theorem B8.drop {l:List Int} (h:B8 l) (k:Nat):B8 (l.drop k):=fun x hx=>h x (List.mem_of_mem_drop hx)
theorem B8.one {x:Int} (h0:0≤x) (h:x≤255):B8 [x]:=fun y hy=>by rw[List.mem_singleton.1 hy];exact⟨h0,h⟩
theorem digs_b8 (n:Nat):B8 (digs n):=by
 induction n using Nat.strongRecOn with
 | ind n ih =>
  by_cases h:n=0
  ·subst h;rw[digs_zero];exact B8.nil
  ·rw[digs_pos h]
   exact(ih _ (by omega)).app (B8.one (by omega) (by omega))
theorem val_digs (n:Nat):val (digs n)=n:=by
 induction n using Nat.strongRecOn with
 | ind n ih =>
  by_cases h:n=0
  ·subst h;rw[digs_zero];rfl
  ·rw[digs_pos h,val_snoc,ih _ (by omega)]
   omega
theorem digs_len (k:Nat):∀ n,n < 256 ^ k→(digs n).length≤k:=by
 induction k with
 | zero=>intro n h;rw[show n=0 by simpa using h,digs_zero];exact Nat.le_refl _
 | succ k ih =>
  intro n h
  by_cases h0:n=0
  ·subst h0;rw[digs_zero];exact Nat.zero_le _
  ·rw[digs_pos h0,List.length_append]
   have:=ih (n / 256) (by rw[Nat.pow_succ] at h;omega)
   simp
   omega
theorem digs_ne (n:Nat) (h:n≠0):digs n≠[]:=by rw[digs_pos h];simp
theorem digs_head (n:Nat):(digs n).head?≠some 0:=by
 induction n using Nat.strongRecOn with
 | ind n ih =>
  by_cases h:n=0
  ·subst h;rw[digs_zero];simp
  ·rw[digs_pos h]
   by_cases h2:n / 256=0
   ·rw[h2,digs_zero]
    simp
    omega
   ·have:=ih (n / 256) (by omega)
    cases hd:digs (n / 256) with
    | nil=>exact absurd hd (digs_ne _ h2)
    | cons x t=>rw[hd] at this;simpa using this
theorem snocRec {P:List Int→Prop} (h0:P []) (h1:∀ l x,P l→P (l++[x])) (l:List Int):P l:=by
 rw[← List.reverse_reverse l]
 induction l.reverse with
 | nil=>exact h0
 | cons x t ih=>rw[List.reverse_cons];exact h1 _ _ ih
theorem val_nn {l:List Int} (h:B8 l):0≤val l:=by
 induction l using snocRec with
 | h0=>exact Int.le_refl _
 | h1 l x ih =>
  rw[val_snoc]
  have:=ih h.left
  have:=h x (by simp)
  omega
theorem val_pos {l:List Int} (h:B8 l) (hh:l.head?≠some 0) (hn:l≠[]):0 < val l:=by
 induction l using snocRec with
 | h0=>exact absurd rfl hn
 | h1 l x ih =>
  rw[val_snoc]
  have h1:=val_nn h.left
  have h2:=h x (by simp)
  cases l with
  | nil=>simp at hh;omega
  | cons y t =>
   have:=ih h.left (by simpa using hh) (by simp)
   omega
theorem digs_val {l:List Int} (h:B8 l) (hh:l.head?≠some 0):digs (val l).toNat=l:=by
 induction l using snocRec with
 | h0=>exact digs_zero
 | h1 l x ih =>
  have h1:=val_nn h.left
  have h2:=h x (by simp)
  have h3:=val_pos h hh (by simp)
  rw[val_snoc] at h3 ⊢
  rw[digs_pos (by omega)]
  have e1:(val l*256+x).toNat / 256=(val l).toNat:=by omega
  have e2:(((val l*256+x).toNat % 256:Nat):Int)=x:=by omega
  rw[e1,e2]
  cases l with
  | nil=>simp[val,digs_zero]
  | cons y t=>rw[ih h.left (by simpa using hh)]
theorem val_lt {l:List Int} (h:B8 l):val l < ((256 ^ l.length:Nat):Int):=by
 induction l using snocRec with
 | h0=>decide
 | h1 l x ih =>
  rw[val_snoc,List.length_append,List.length_singleton,Nat.pow_succ]
  have h1:=ih h.left
  have h2:=h x (by simp)
  generalize 256 ^ l.length=N at h1 ⊢
  omega
theorem encU_b8 {n:Int} (h:n < 18446744073709551616):B8 (encU n):=by
 have:=digs_len 8 n.toNat (by omega)
 exact(B8.one (x:=((digs n.toNat).length:Int)) (by omega) (by omega)).app (digs_b8 _)
theorem encU_len {n:Int} (h:n < 18446744073709551616):(encU n).length≤9:=by
 have:=digs_len 8 n.toNat (by omega)
 unfold encU
 simp
 omega
theorem digs_step {n:Nat} (h:n≠0):(digs n).length=(digs (n / 256)).length+1:=by rw[digs_pos h,List.length_append];rfl
theorem digs_get (n:Nat):∀ t,t < (digs n).length→(digs n)[t]?=some (((n / 256 ^ ((digs n).length - 1 - t) % 256:Nat)):Int):=by
 induction n using Nat.strongRecOn with
 | ind n ih =>
  intro t ht
  by_cases h:n=0
  ·subst h;rw[digs_zero] at ht;exact absurd ht (Nat.not_lt_zero _)
  ·have hl:=digs_step h
   rw[hl]
   conv=>lhs;rw[digs_pos h]
   by_cases h2:t < (digs (n / 256)).length
   ·rw[List.getElem?_append_left h2,ih _ (by omega) t h2]
    have e:(digs (n / 256)).length+1 - 1 - t=((digs (n / 256)).length - 1 - t)+1:=by omega
    rw[e,Nat.pow_succ,Nat.mul_comm,Nat.div_div_eq_div_mul]
   ·have e:t=(digs (n / 256)).length:=by omega
    subst e
    rw[List.getElem?_append_right (Nat.le_refl _),Nat.sub_self]
    have e0:(digs (n / 256)).length+1 - 1 - (digs (n / 256)).length=0:=by omega
    rw[e0]
    simp
theorem digs_take {n t:Nat} (h:t < (digs n).length):(digs n).take (t+1)=(digs n).take t++[((n / 256 ^ ((digs n).length - 1 - t) % 256:Nat):Int)]:=by
 rw[List.take_add_one,digs_get n t h];rfl
structure Rd where
 b:List Int
 e:Int
def Rd.bad (e:Int):Rd:=⟨[],e⟩
def num:List Int→Option (Int × List Int)
 | []=>none
 | k::t=>if 8 < k ∨ (t.length:Int) < k ∨ (0 < k∧t.head?=some 0) then none else some (val (t.take k.toNat),t.drop k.toNat)
def Rd.u (r:Rd):Int × Rd:=if r.e≠0 then (0,r) else match num r.b with
 | some p=>(p.1,⟨p.2,0⟩)
 | none=>(0,Rd.bad 11)
theorem num_enc {n:Int} (h0:0≤n) (h:n < 18446744073709551616) (s:List Int):num (encU n++s)=some (n,s):=by
 have h1:=digs_len 8 n.toNat (by omega)
 have h2:=digs_head n.toNat
 have h3:=val_digs n.toNat
 unfold encU num
 rw[List.cons_append]
 dsimp only
 rw[if_neg,Int.toNat_natCast,List.take_left',List.drop_left',h3]
 ·congr 2;omega
 ·rfl
 ·rfl
 ·rw[List.length_append]
  rintro(e | e | ⟨e1,e2⟩)
  ·omega
  ·omega
  ·cases hd:digs n.toNat with
   | nil=>rw[hd] at e1;simp at e1
   | cons x t=>rw[hd] at h2 e2;exact h2 (by simpa using e2)
theorem num_some {b:List Int} (hb:B8 b) {n:Int} {s:List Int} (h:num b=some (n,s)):0≤n∧n < 18446744073709551616∧b=encU n++s:=by
 cases b with
 | nil=>cases h
 | cons k t =>
  unfold num at h
  dsimp only at h
  split at h
  ·cases h
  ·rename_i hn
   cases h
   have hk:=hb k (by simp)
   have ht:B8 t:=fun x hx=>hb x (by simp[hx])
   have h1:=val_nn (ht.take k.toNat)
   have h2:=val_lt (ht.take k.toNat)
   have hl:(t.take k.toNat).length=k.toNat:=by rw[List.length_take];omega
   rw[hl] at h2
   have h3:(256:Nat) ^ k.toNat≤256 ^ 8:=Nat.pow_le_pow_right (by decide) (by omega)
   have h9:(256:Nat) ^ 8=18446744073709551616:=rfl
   refine⟨h1,by omega,?_⟩
   have hh:(t.take k.toNat).head?≠some 0:=by
    by_cases h0:k.toNat=0
    ·rw[h0];simp
    ·intro e
     refine hn (.inr (.inr ⟨by omega,?_⟩))
     cases t with
     | nil=>rw[List.take_nil] at e;cases e
     | cons y t =>
      rw[show k.toNat=(k.toNat - 1)+1 by omega,List.take_succ_cons] at e
      exact e
   unfold encU
   rw[digs_val (ht.take _) hh,hl,List.cons_append,List.take_append_drop]
   congr 1
   omega
structure Cod {α:Type} (enc:α→List Int) (dec:Rd→α × Rd) (P:α→Prop):Prop where
 fw:∀ x s,P x→dec ⟨enc x++s,0⟩=(x,⟨s,0⟩)
 st:∀ r,(dec r).2.e=0→r.e=0
 bw:∀ r,B8 r.b→(dec r).2.e=0→r.e=0∧r.b=enc (dec r).1++(dec r).2.b∧P (dec r).1
def P64 (n:Int):Prop:=0≤n∧n < 18446744073709551616
def I64 (n:Int):Prop:=-9223372036854775808≤n∧n≤9223372036854775807
theorem Cod.b8 {α:Type} {enc:α→List Int} {dec:Rd→α × Rd} {P:α→Prop} (h:Cod enc dec P) {r:Rd} (hb:B8 r.b) (he:(dec r).2.e=0):B8 (dec r).2.b:=by
 rw[(h.bw r hb he).2.1] at hb
 exact hb.right
theorem Rd.u_e {r:Rd} (h:r.e≠0):r.u=(0,r):=by unfold Rd.u;rw[if_pos h]
theorem Rd.u_ok {b:List Int} {n:Int} {s:List Int} (h:num b=some (n,s)):(Rd.mk b 0).u=(n,⟨s,0⟩):=by unfold Rd.u;rw[if_neg (by simp),h]
theorem Rd.u_no {b:List Int} (h:num b=none):(Rd.mk b 0).u=(0,Rd.bad 11):=by unfold Rd.u;rw[if_neg (by simp),h]
theorem Rd.u_st (r:Rd) (h:r.u.2.e=0):r.e=0:=by
 by_cases h0:r.e=0
 ·exact h0
 ·rw[Rd.u_e h0] at h;exact h
theorem codU:Cod encU Rd.u P64:=by
 refine⟨fun x s h=>Rd.u_ok (num_enc h.1 h.2 s),Rd.u_st,fun r hb he=>?_⟩
 obtain⟨b,e⟩:=r
 by_cases h:e=0
 ·subst h
  cases hn:num b with
  | none=>rw[Rd.u_no hn] at he;exact absurd he (by decide)
  | some p =>
   obtain⟨n,s⟩:=p
   rw[Rd.u_ok hn]
   have:=num_some hb hn
   exact⟨rfl,this.2.2,this.1,this.2.1⟩
 ·rw[Rd.u_e (r:=⟨b,e⟩) h] at he
  exact absurd he h
def zz (n:Int):Int:=if 0≤n then 2*n else -2*n - 1
def unzz (m:Int):Int:=if m % 2=1 then -(m / 2) - 1 else m / 2
def encI (n:Int):List Int:=encU (zz n)
def Rd.i (r:Rd):Int × Rd:=(unzz r.u.1,r.u.2)
theorem unzz_zz (n:Int):unzz (zz n)=n:=by unfold unzz zz;split <;> split <;> omega
theorem zz_unzz {m:Int} (h:0≤m):zz (unzz m)=m:=by unfold unzz zz;split <;> split <;> omega
theorem zz_rg {n:Int} (h:I64 n):P64 (zz n):=by unfold I64 at h;unfold P64 zz;split <;> omega
theorem unzz_rg {m:Int} (h:P64 m):I64 (unzz m):=by unfold P64 at h;unfold I64 unzz;split <;> omega
theorem codI:Cod encI Rd.i I64:=by
 refine⟨fun x s h=>?_,fun r h=>Rd.u_st r h,fun r hb he=>?_⟩
 ·unfold Rd.i encI
  rw[codU.fw _ s (zz_rg h),unzz_zz]
 ·obtain⟨h1,h2,h3⟩:=codU.bw r hb he
  refine⟨h1,?_,unzz_rg h3⟩
  unfold encI Rd.i
  rw[zz_unzz h3.1]
  exact h2
def Rd.count (most:Int) (r:Rd):Int × Rd:=if r.u.2.e≠0 then (0,r.u.2) else if most < 0 ∨ most < r.u.1 then (0,Rd.bad 8) else if (r.u.2.b.length:Int) < r.u.1 then (0,Rd.bad 11) else r.u
theorem Rd.count_e {most:Int} {r:Rd} (h:r.e≠0):r.count most=(0,r):=by unfold Rd.count;rw[Rd.u_e h,if_pos h]
theorem Rd.count_fw {most n:Int} {s:List Int} (h:P64 n) (hm:n≤most) (hs:n≤s.length):(Rd.mk (encU n++s) 0).count most=(n,⟨s,0⟩):=by
 unfold Rd.count
 rw[codU.fw n s h]
 dsimp only
 rw[if_neg (by simp),if_neg (by unfold P64 at h;omega),if_neg (by omega)]
theorem Rd.count_bw {most:Int} {r:Rd} (hb:B8 r.b) (he:(r.count most).2.e=0):r.e=0∧r.b=encU (r.count most).1++(r.count most).2.b∧P64 (r.count most).1∧(r.count most).1≤most∧(r.count most).1≤(r.count most).2.b.length∧B8 (r.count most).2.b:=by
 unfold Rd.count at he ⊢
 split at he
 ·rename_i h;exact absurd he h
 ·rename_i h
  split at he
  ·exact absurd he (by decide)
  ·rename_i h2
   split at he
   ·exact absurd he (by decide)
   ·rename_i h3
    rw[if_neg h,if_neg h2,if_neg h3]
    obtain⟨g1,g2,g3⟩:=codU.bw r hb he
    exact⟨g1,g2,g3,by omega,by omega,codU.b8 hb he⟩
def encB (x:Bool):List Int:=if x=true then [1] else [0]
def Rd.bool (r:Rd):Bool × Rd:=if r.e≠0 then (false,r) else match r.b with
 | []=>(false,Rd.bad 11)
 | x::t=>if 1 < x then (false,Rd.bad 11) else (decide (x=1),⟨t,0⟩)
theorem codB:Cod encB Rd.bool fun _=>True:=by
 have hst:∀ r:Rd,r.bool.2.e=0→r.e=0:=fun r h=>by
  unfold Rd.bool at h
  split at h
  ·exact h
  ·rename_i h0;simpa using h0
 refine⟨fun x s _=>?_,hst,fun r hb he=>?_⟩
 ·cases x <;> rfl
 ·obtain⟨b,e⟩:=r
  unfold Rd.bool at he ⊢
  split at he
  ·rename_i h;exact absurd he h
  ·rename_i h
   rw[if_neg h]
   cases b with
   | nil=>cases he
   | cons x t =>
    dsimp only at he ⊢
    split at he
    ·exact absurd he (by decide)
    ·rename_i h2
     rw[if_neg h2]
     have:=hb x (by simp)
     refine⟨by simpa using h,?_,trivial⟩
     by_cases hx:x=1
     ·subst hx;rfl
     ·have:x=0:=by omega
      subst this;rfl
def bts (s:ByteArray):List Int:=s.data.toList.map fun c=>(c.toNat:Int)
def txt (l:List Int):ByteArray:=⟨(l.map fun x=>UInt8.ofNat x.toNat).toArray⟩
theorem bts_len (s:ByteArray):(bts s).length=s.size:=by unfold bts;simp
theorem bts_b8 (s:ByteArray):B8 (bts s):=fun x hx=>by
 obtain⟨c,_,rfl⟩:=List.mem_map.1 hx
 have:=c.toNat_lt
 omega
theorem txt_bts (s:ByteArray):txt (bts s)=s:=by
 unfold txt bts
 rw[List.map_map]
 have:(s.data.toList.map ((fun x:Int=>UInt8.ofNat x.toNat) ∘ fun c:UInt8=>(c.toNat:Int)))=s.data.toList:=by
  conv=>rhs;rw[← List.map_id s.data.toList]
  refine List.map_congr_left fun c _=>?_
  simp
 rw[this]
theorem bts_txt {l:List Int} (h:B8 l):bts (txt l)=l:=by
 unfold txt bts
 simp only[List.map_map]
 conv=>rhs;rw[← List.map_id l]
 refine List.map_congr_left fun x hx=>?_
 have:=h x hx
 simp
 omega
def encS (s:ByteArray):List Int:=encU s.size++bts s
def Rd.text (most:Int) (r:Rd):ByteArray × Rd:=if r.u.2.e≠0 then (⟨#[]⟩,r.u.2) else if most < r.u.1 then (⟨#[]⟩,Rd.bad 8) else if (r.u.2.b.length:Int) < r.u.1 then (⟨#[]⟩,Rd.bad 11) else (txt (r.u.2.b.take r.u.1.toNat),⟨r.u.2.b.drop r.u.1.toNat,0⟩)
theorem codS (most:Int) (hm:most < 18446744073709551616):Cod encS (Rd.text most) fun s=>(s.size:Int)≤most:=by
 refine⟨fun x s h=>?_,fun r h=>Rd.u_st r ?_,fun r hb he=>?_⟩
 ·unfold Rd.text encS
  rw[List.append_assoc,codU.fw _ _ ⟨by omega,by omega⟩]
  have hl:=bts_len x
  dsimp only
  rw[if_neg (by simp),if_neg (by omega),if_neg (by rw[List.length_append];omega),Int.toNat_natCast,← hl,List.take_left,List.drop_left,txt_bts]
 ·unfold Rd.text at h
  split at h
  ·exact h
  ·rename_i h0;simpa using h0
 ·unfold Rd.text at he ⊢
  split at he
  ·rename_i h;exact absurd he h
  ·rename_i h
   split at he
   ·exact absurd he (by decide)
   ·rename_i h2
    split at he
    ·exact absurd he (by decide)
    ·rename_i h3
     rw[if_neg h,if_neg h2,if_neg h3]
     have h4:r.u.2.e=0:=by simpa using h
     obtain⟨g1,g2,g3⟩:=codU.bw r hb h4
     have g4:=codU.b8 hb h4
     have hb2:=bts_txt (g4.take r.u.1.toNat)
     have hl:=bts_len (txt (r.u.2.b.take r.u.1.toNat))
     rw[hb2,List.length_take] at hl
     unfold P64 at g3
     have hs:((txt (r.u.2.b.take r.u.1.toNat)).size:Int)=r.u.1:=by omega
     refine⟨g1,?_,by dsimp only;omega⟩
     unfold encS
     rw[hs,hb2]
     dsimp only
     rw[List.append_assoc,List.take_append_drop]
     exact g2
section
variable {α:Type}
/-- k elements, one behind the other -/
def rep (one:Rd→α × Rd) (r:Rd):Nat→List α × Rd
 | 0=>([],r)
 | k+1=>((rep one r k).1++[(one (rep one r k).2).1],(one (rep one r k).2).2)
def encL (enc:α→List Int) (l:List α):List Int:=encU l.length++l.flatMap enc
def Rd.list (most:Int) (one:Rd→α × Rd) (r:Rd):List α × Rd:=rep one (r.count most).2 (r.count most).1.toNat
theorem rep_len (one:Rd→α × Rd) (r:Rd):∀ k,(rep one r k).1.length=k
 | 0=>rfl
 | k+1=>by unfold rep;simp[rep_len one r k]
theorem rep_fw {enc:α→List Int} {one:Rd→α × Rd} {P:α→Prop} (h:Cod enc one P) (l:List α) (hP:∀ x∈l,P x) (s:List Int):∀ k,k≤l.length→rep one ⟨l.flatMap enc++s,0⟩ k=(l.take k,⟨(l.drop k).flatMap enc++s,0⟩)
 | 0,_=>rfl
 | k+1,hk=>by
  unfold rep
  rw[rep_fw h l hP s k (by omega)]
  have e:l.drop k=l[k]::l.drop (k+1):=List.drop_eq_getElem_cons (by omega)
  dsimp only
  rw[e,List.flatMap_cons,List.append_assoc,h.fw _ _ (hP _ (List.getElem_mem _))]
  dsimp only
  rw[List.take_succ_eq_append_getElem (by omega)]
theorem rep_bw {enc:α→List Int} {one:Rd→α × Rd} {P:α→Prop} (h:Cod enc one P) {r:Rd} (hb:B8 r.b):∀ k,(rep one r k).2.e=0→r.e=0∧r.b=(rep one r k).1.flatMap enc++(rep one r k).2.b∧(∀ x∈(rep one r k).1,P x)∧B8 (rep one r k).2.b
 | 0,he=>⟨he,rfl,fun x hx=>(by cases hx),hb⟩
 | k+1,he=>by
  have h0:(one (rep one r k).2).2.e=0:=he
  have hk:(rep one r k).2.e=0:=h.st _ h0
  obtain⟨h1,h2,h3,h4⟩:=rep_bw h hb k hk
  obtain⟨g1,g2,g3⟩:=h.bw _ h4 h0
  refine⟨h1,?_,fun x hx=>?_,h.b8 h4 h0⟩
  ·unfold rep
   dsimp only
   rw[List.flatMap_append,List.append_assoc,List.flatMap_singleton,← g2]
   exact h2
  ·unfold rep at hx
   rcases List.mem_append.1 hx with hx | hx
   ·exact h3 x hx
   ·rw[List.mem_singleton.1 hx];exact g3
end
end
end Go.Proofs.YtmbnlccafcfbeaaGreatDoor
