/- Parts of the proof: RcL2. -/
import Derived.Test.YtmbnlccafcfbeaaGreatDoorPdA
import Derived.Test.YtmbnlccafcfbeaaGreatDoorPd11
import Derived.Test.YtmbnlccafcfbeaaGreatDoorPd3
set_option linter.unusedVariables false
set_option linter.unusedSimpArgs false
set_option linter.unusedSectionVars false
set_option maxRecDepth 100000
namespace Go.Proofs.YtmbnlccafcfbeaaGreatDoor
section
open Go.RowKit
theorem Rd.count_len {most:Int} {r:Rd} (hb:B8 r.b):0≤(r.count most).1∧(r.count most).1 < 18446744073709551616:=by
 have:=Rd.u_rg hb
 unfold P64 at this
 unfold Rd.count
 split
 ·exact⟨Int.le_refl _,by show(0:Int) < 18446744073709551616;decide⟩
 ·split
  ·exact⟨Int.le_refl _,by show(0:Int) < 18446744073709551616;decide⟩
  ·split
   ·exact⟨Int.le_refl _,by show(0:Int) < 18446744073709551616;decide⟩
   ·exact this
theorem Rd.count_le {most:Int} {r:Rd} (h:0≤most):(r.count most).1≤most:=by
 unfold Rd.count
 split
 ·exact h
 ·split
  ·exact h
  ·rename_i h1
   split
   ·exact h
   ·omega
/-- the place, the row that it holds, and what is left to read -/
structure PE {α:Type} (E:Env) (N:Nat→Prop) (t:TypeId) (b:Nat) (pre post:List Value) (R:Rel α) (tE:TypeId) (sz:Nat) (W:World) (s:Fs) (V U:Value) (n:Nat) (xs:List Value) (l:List α) (w:World):Prop where
 fm:Fm E N w s
 pl:Bk w b t (pre++[V]++post).toArray
 row:w.ownsRow W.heap.size tE sz U n xs
 els:Els (R false N) sz w l xs
 kp:Kp (fun k=>k=E.g ∨ k=b) W w
/-- .. and the element that was read, in its variable -/
structure PD {α:Type} (E:Env) (N:Nat→Prop) (t:TypeId) (b:Nat) (pre post:List Value) (R:Rel α) (tE:TypeId) (sz:Nat) (W:World) (s:Fs) (V U:Value) (n:Nat) (xs:List Value) (l:List α) (xb:Nat) (rx:List Value) (x:α) (w:World):Prop extends PE E N t b pre post R tE sz W s V U n xs l w where
 bx:Bk w xb tE rx.toArray
 rx:R false N w x rx
 ne:∀ k,U.ownBlock=some k→k≠xb
/-- where all that lies -/
structure PW (E:Env) (b:Nat) (W:World):Prop where
 lb:b < W.heap.size
 lg:E.g < W.heap.size
 lf:E.gf < W.heap.size
 lbb:E.bb < W.heap.size
 n1:b≠E.gf
 n2:b≠E.g
 n3:b≠E.bb
section
variable {α:Type} {E:Env} {N:Nat→Prop} {t:TypeId} {b n xb:Nat} {pre post xs rx:List Value} {R:Rel α} {bad:TypeId→Prop} {tE:TypeId} {sz:Nat} {W w w':World} {rd:Rd} {V U V':Value} {l:List α} {x:α}
theorem kp_false_below (h:Below w.heap.size w w'):Kp (fun _=>False) w w':=Kp.of_below h
theorem PE.below (hR:RK R bad) (h:PE E N t b pre post R tE sz W (.r rd) V U n xs l w) (hb:Below w.heap.size w w'):PE E N t b pre post R tE sz W (.r rd) V U n xs l w' :=
 ⟨h.fm.below hb,h.pl.below hb h.pl.lt,own_below h.row hb,h.els.mono fun y r hy=>hR.rd hy (kp_false_below hb) (fun k h=>h.elim),h.kp.belowTo hb⟩
theorem PD.below (hR:RK R bad) (h:PD E N t b pre post R tE sz W (.r rd) V U n xs l xb rx x w) (hb:Below w.heap.size w w'):PD E N t b pre post R tE sz W (.r rd) V U n xs l xb rx x w' :=
 ⟨h.toPE.below hR hb,h.bx.below hb h.bx.lt,hR.rd h.rx (kp_false_below hb) (fun k h=>h.elim),h.ne⟩
theorem PD.drew (hR:RK R bad) (h:PD E N t b pre post R tE sz W (.r rd) V U n xs l xb rx x w):PD E N t b pre post R tE sz W (.r rd) V U n xs l xb rx x w.drew:=h.below hR ((Below.refl _ _).drew)
/-- the append -/
theorem PD.grow (hR:RK R bad) (hbad:¬ bad tE) (hW:PW E b W) (h:PD E N t b pre post R tE sz W (.r rd) V U n xs l xb rx x w) (hl:rx.length=sz) (hg:w.grownBy w' U.ownBlock) (ho:w'.ownsRow W.heap.size tE sz V' (n+1) (xs++rx)):PE E N t b pre post R tE sz W (.r rd) V V' (n+1) (xs++rx) (l++[x]) w':=by
 have hk:Kp (fun k=>U.ownBlock=some k) w w':=Kp.of_grown hg fun k hk=>hk
 have hub:∀ k,U.ownBlock=some k→W.heap.size≤k:=fun k hk=>(h.row.lt k hk).1
 have hS:∀ k,U.ownBlock=some k→∃ t cs,Bk w k t cs∧¬ bad t:=fun k hk=>let ⟨cs,hcs⟩:=own_bk h.row hk;⟨_,cs,hcs,hbad⟩
 refine⟨h.fm.kp hk (fun e=>?_) (fun e=>?_) (fun e=>?_),h.pl.kp hk (fun e=>?_),ho,(h.els.mono fun y r hy=>hR.rd hy hk hS).snoc (hR.rd h.rx hk hS) hl,h.kp.trans hk fun k hk1 he=>?_⟩
 ·have:=hub _ e;have:=hW.lf;omega
 ·have:=hub _ e;have:=hW.lg;omega
 ·have:=hub _ e;have:=hW.lbb;omega
 ·have:=hub _ e;have:=hW.lb;omega
 ·have:=hub _ he;omega
/-- the store into the place -/
theorem PE.store (hR:RK R bad) (hbad:¬ bad t) (hW:PW E b W) (h:PE E N t b pre post R tE sz W (.r rd) V U n xs l w):PE E N t b pre post R tE sz W (.r rd) V' U n xs l (w.setCell ⟨b,pre.length,none⟩ V'):=by
 have hk:Kp (fun k=>k=b) w (w.setCell ⟨b,pre.length,none⟩ V'):=Kp.setCell (S:=fun k=>k=b) w ⟨b,pre.length,none⟩ _ rfl
 have hS:∀ k,k=b→∃ t cs,Bk w k t cs∧¬ bad t:=fun k hk=>by subst hk;exact⟨_,_,h.pl,hbad⟩
 refine⟨h.fm.kp hk (fun e=>hW.n1 e.symm) (fun e=>hW.n2 e.symm) (fun e=>hW.n3 e.symm),bk_mid h.pl,own_kp h.row hk (fun k he e=>?_),h.els.mono fun y r hy=>hR.rd hy hk hS,h.kp.trans hk fun k _ e=>.inr e⟩
 have:=(h.row.lt k he).1
 have:=hW.lb
 omega
/-- an element is read into its variable -/
theorem PE.read {rd':Rd} {w1:World} (hR:RK R bad) (hbr:¬ bad 103) (hbE:¬ bad tE) (hW:PW E b W) (h:PE E N t b pre post R tE sz W (.r rd) V U n xs l w) (hb1:Below w.heap.size w w1) (hx1:Bk w1 w.heap.size tE (List.toArray rx)) {rx':List Value} {x':α} (hf:Fm E N w' (.r rd')) (hx:Hd E N tE w.heap.size [] [] false w' rx') (hrx:R false N w' x' rx') (hk:Fr E N w.heap.size false w1 w') :
  PD E N t b pre post R tE sz W (.r rd') V U n xs l w.heap.size rx' x' w':=by
 have h1:=h.below hR hb1
 unfold Fr at hk
 rw[frS_false] at hk
 obtain⟨cs,hcs⟩:=h1.fm.2.1.bkq
 have hlt:=h.kp.size
 have hS:∀ k,(k=E.g ∨ k=w.heap.size)→∃ t cs,Bk w1 k t cs∧¬ bad t:=fun k hk=>hk.elim (fun e=>by subst e;exact⟨_,cs,hcs,hbr⟩) (fun e=>by subst e;exact⟨_,_,hx1,hbE⟩)
 unfold Hd at hx
 rw[if_neg (by simp)] at hx
 have hxx:=hx.1
 rw[List.nil_append,List.append_nil] at hxx
 refine⟨⟨hf,h1.pl.kp hk (fun e=>e.elim hW.n2 fun e=>by have:=hW.lb;omega),own_kp h1.row hk (fun k he e=>?_),h1.els.mono fun y r hy=>hR.rd hy hk hS,h1.kp.trans hk fun k hk1 e=>?_⟩,hxx,hrx,fun k he e=>?_⟩
 ·have hk2:=h.row.lt k he
  rcases e with e | e
  ·have:=hW.lg;omega
  ·omega
 ·rcases e with e | e
  ·exact .inl e
  ·omega
 ·have hk2:=h.row.lt k he
  omega
end
theorem LsR.fr {α:Type} {R:Rel α} {bad:TypeId→Prop} {tE:TypeId} {sz:Nat} {E:Env} {N:Nat→Prop} {t:TypeId} {b c:Nat} {pre post r:List Value} {m:Bool} {w w':World} {s:Fs} {A:Option Addr} {l:List α} (hR:RK R bad) (h:LsR R tE sz m N w A c l) (hF:Fm E N w s) (hm:s.md=m) (hH:Hd E N t b pre post m w r) (hf:Fr E N b m w w') (h1:t≠tE) (h2:¬ bad t) (h3:103≠tE) (h4:¬ bad 103):LsR R tE sz m N w' A c l:=by
 cases m with
 | true =>
  unfold Fr at hf
  rw[frS_true] at hf
  exact h.wr hR hf
 | false =>
  unfold Fr at hf
  rw[frS_false] at hf
  cases s with
  | w l=>cases hm
  | r rd =>
   obtain⟨cs,hcs⟩:=hF.2.1.bkq
   unfold Hd at hH
   rw[if_neg (by simp)] at hH
   exact h.rd hR hf fun k hk=>hk.elim (fun e=>by subst e;exact⟨_,cs,hcs,h3,h4⟩) fun e=>by subst e;exact⟨_,_,hH.1,h1,h2⟩
/-- the states of a region that appends an element -/
def PqS (D0:World→Prop) (D1 D2:Value→World→Prop) (D3:World→Prop):List Value→World→Prop
 | []=>D0
 | [v]=>D1 v
 | [_,v]=>D2 v
 | _=>D3
end
end Go.Proofs.YtmbnlccafcfbeaaGreatDoor
