/- Parts of the proof: BarQ, StepH, Map, MarkA, MarkV, RBldA, RBldB. -/
import Derived.BigQuiet
import Derived.Deep.AppendLies
import Derived.Deep.DeepCutAuto
import Derived.Deep.QuietTactic
import Derived.Maps.AppendAt
import Derived.Maps.Own
import Derived.Maps.OwnOps
import Derived.Maps.OwnSet
import Derived.Test.YtaijmgkjbbiboaaGreatPcA
import Derived.Test.YtaijmgkjbbiboaaGreatPc0
import Derived.Test.YtaijmgkjbbiboaaGreatPc13
import Derived.Test.YtaijmgkjbbiboaaGreatPc14
import Derived.Test.YtaijmgkjbbiboaaGreatPc15
import Derived.Test.YtaijmgkjbbiboaaGreatPc16
import Derived.Test.YtaijmgkjbbiboaaGreatPc17
import Derived.Test.YtaijmgkjbbiboaaGreatPc18
import Derived.Test.YtaijmgkjbbiboaaGreatPc19
import Derived.Test.YtaijmgkjbbiboaaGreatPc6
set_option linter.unusedVariables false
set_option linter.unusedSimpArgs false
set_option linter.unusedSectionVars false
set_option maxRecDepth 100000
namespace Go.Proofs.YtaijmgkjbbiboaaGreat
section
open Go.RowKit
structure FindI (s:St):Prop where
 ok:s.m.Ok
 til:s.m.old.walk.2=s.m.old.ws.length
 mem:∀ x∈s.xs,x < 16777216→x∈s.m.old.objs
theorem Spc.walkN_len (s:Spc):∀ f i,(s.walkN f i).1.length≤f
 | 0,i=>Nat.le_refl _
 | f+1,i=>by
  unfold Spc.walkN
  split
  ·exact Nat.zero_le _
  ·exact Nat.succ_le_succ (Spc.walkN_len s f _)
theorem slotN_31 {m:Mm} (a:Int):(slotN (m.hdr a).2).toNat≤31:=by
 by_cases h:(m.hdr a).1=0
 ·have:=vH_bound (Mm.hdr_valid h)
  unfold slotN
  split
  ·omega
  ·split <;> omega
 ·rw[Mm.hdr_zero h]
  decide
theorem flatMap_len {α β:Type} (f:α→List β) (c:Nat):∀ l:List α,(∀ a∈l,(f a).length≤c)→(l.flatMap f).length≤l.length*c
 | [],_=>by simp
 | a::l,h=>by
  rw[List.flatMap_cons,List.length_append,List.length_cons,Nat.succ_mul]
  have h1:=h a (List.mem_cons_self ..)
  have h2:=flatMap_len f c l fun b hb=>h b (List.mem_cons_of_mem _ hb)
  omega
end
section
open Go.RowKit Go.Sort Go.Shelf
attribute [local go_sem] Oper.semAt_some
def OpV.cells (o:OpV):Array Value:=#[.int .u8 o.k,.int .i64 o.h.k,.int .i64 o.h.c,.int .i64 o.h.f,.int .i64 o.a,.int .i64 o.b,.int .i64 o.i,.int .u64 o.w,.bool o.r]
structure OpV.Ok (o:OpV):Prop where
 k0:0≤o.k
 k1:o.k≤255
 a0:-9223372036854775808≤o.a
 a1:o.a≤9223372036854775807
 b0:-9223372036854775808≤o.b
 b1:o.b≤9223372036854775807
 w:U64 o.w
theorem RC.form {w:World} {cs:List Int} {A:Option Addr} {c:Nat} (h:RC w cs A c):A=none ∨ ∃ b o,A=some ⟨b,o,none⟩∧b < w.heap.size:=by
 rcases h.s.sl.2 with h0 | ⟨b,o,e,hb,_⟩
 ·exact .inl (h.n (List.length_eq_zero_iff.1 h0)).1
 ·exact .inr ⟨b,o,e,hb⟩
section
variable {w:World} {B k:Nat} {L:LP} {s:St}
end
end
section
open Go.RowKit Go.Sort Go.Shelf
end
section
open Go.RowKit Go.Maps
def updZ (f:Int→Option Int) (n d:Int):Int→Option Int:=fun k=>if k=n then some d else f k
section
variable {P:Program} {k e t:TypeId} {w w':World} {b n:Nat} {f:Int→Option Int}
/-- Block b is a map of at most n entries that maps as f says. -/
def MapI (P:Program) (k e:TypeId) (w:World) (b n:Nat) (f:Int→Option Int):Prop :=
 ∃ D:DataW Unit,w.ownsMap P k (plainElem P e) b n D∧∀ x,(Lit.int .i64 x).wf=true→Maps.has D (.int .i64 x)=(f x).isSome∧D.atKey (.int .i64 x) (.lit (.int .i64 0))=.lit (.int .i64 ((f x).getD 0))
theorem MapI.made (P:Program) (k e:TypeId) (w:World):MapI P k e (w.alloc (.map #[] 0)) w.heap.size 0 (fun _=>none) :=
 ⟨_,World.ownsMap_made _ _ _ _,fun x _=>⟨rfl,rfl⟩⟩
theorem MapI.mono (h:MapI P k e w b n f) {m:Nat} (hm:n≤m):MapI P k e w b m f:=let ⟨D,h1,h2⟩:=h;⟨D,h1.mono hm,h2⟩
theorem MapI.lt (h:MapI P k e w b n f):b < w.heap.size:=let ⟨_,h1,_⟩:=h;h1.lt
theorem MapI.block (h:MapI P k e w b n f) (hb:w'.heap[b]?=w.heap[b]?):MapI P k e w' b n f:=by
 obtain⟨D,⟨es,clock,h1,h2⟩,h3⟩:=h
 exact⟨D,⟨es,clock,hb.trans h1,h2⟩,h3⟩
theorem MapI.congr {g:Int→Option Int} (h:MapI P k e w b n f) (hg:∀ x,(Lit.int .i64 x).wf=true→f x=g x):MapI P k e w b n g :=
 let ⟨D,h1,h2⟩:=h;⟨D,h1,fun x hx=>by rw[← hg x hx];exact h2 x hx⟩
variable (hk:P.underlying k=some (.int .i64)) (he:P.underlying e=some (.int .i64)) (ht:P.underlying t=some (.map k e)) (hz:∀ w,(zeroValue e).run P w=.ok (.int .i64 0) w)
include hk he ht
theorem MapI.put (h:MapI P k e w b n f) (hn:n < maxLen) {x y:Int} (hx:(Lit.int .i64 x).wf=true) (hy:(Lit.int .i64 y).wf=true) :
  ∃ w',(Instr.mapUpdate t (.map (some b)) (.int .i64 x) (.int .i64 y)).run P w=.ok () w'∧MapI P k e w' b (n+1) (updZ f x y)∧w.grownBy w' (some b):=by
 obtain⟨D,h1,h2⟩:=h
 obtain⟨w',r1,r2,r3⟩:=h1.update (int_keyed hk) ht hn (keyOf_int_mk hk hx) (plainElem_int he hy)
 refine⟨w',r1,⟨_,r2,fun z hz=>?_⟩,r3⟩
 have hm:=h1.isMap
 unfold updZ
 by_cases hzx:z=x
 ·subst hzx
  rw[if_pos rfl]
  have hkl:WideAt.IsKeyLit (.int .i64 z):=trivial
  exact⟨has_put_same hm hkl _,atKey_put_same hm hkl _ _⟩
 ·rw[if_neg hzx]
  have hne:(Lit.int .i64 z)≠Lit.int .i64 x:=by intro hh;injection hh with _ hh;exact hzx hh
  rw[has_put_other hne,atKey_put_other hne]
  exact h2 z hz
theorem wpList_map_put {ops:Array Oper} {rest:List Oper} {o:Oper} {a:Act} {Q:Exit→Act→World→Prop}
  (hg:o.guard=none) {m x v:Operand} (hop:o.op=Op.mapUpdate t m x v) (h:MapI P k e w b n f) (hn:n < maxLen) {i j:Int}
  (hm:a.eval m=.map (some b)) (hi:a.eval x=.int .i64 i) (hj:a.eval v=.int .i64 j) (wi:(Lit.int .i64 i).wf=true) (wj:(Lit.int .i64 j).wf=true)
  (hK:∀ w',MapI P k e w' b (n+1) (updZ f i j)→w.grownBy w' (some b)→wpList P ops Q rest (a.put o.dst undef) w') :
  wpList P ops Q (o::rest) a w:=by
 obtain⟨w',r1,r2,r3⟩:=h.put hk he ht hn wi wj
 refine wpList_plain hg fun K' hK'=>?_
 unfold Oper.wp execOp
 simp only[hop,hm,hi,hj,Sem.run_bind,r1,Result.andThen_ok]
 exact hK' _ _ (hK w' r2 r3)
include hz
theorem MapI.look (h:MapI P k e w b n f) {x:Int} (hx:(Lit.int .i64 x).wf=true):(Instr.lookup t (.map (some b)) (.int .i64 x) false).run P w=.ok (.int .i64 ((f x).getD 0)) w:=by
 obtain⟨D,h1,h2⟩:=h
 obtain⟨c,r1,r2,_⟩:=h1.lookup_int (int_keyed hk) ht he (hz w) (keyOf_int_mk hk hx)
 rw[(h2 x hx).2] at r2
 injection r2 with r2
 injection r2 with _ r2
 rw[r1,r2]
theorem MapI.look_ok (h:MapI P k e w b n f) {x:Int} (hx:(Lit.int .i64 x).wf=true):(Instr.lookup t (.map (some b)) (.int .i64 x) true).run P w=.ok (.tuple #[.int .i64 ((f x).getD 0),.bool (f x).isSome]) w:=by
 obtain⟨D,h1,h2⟩:=h
 obtain⟨v,ps,r1,r2⟩:=h1.look_ok (int_keyed hk) ht (hz w) (plainElem_int he (by decide)) (keyOf_int_mk hk hx)
 obtain⟨c,rfl,hc,_⟩:=plainElem_int_inv he r2
 rw[(h2 x hx).1] at r1
 rw[(h2 x hx).2] at hc
 simp only[Prod.mk.injEq] at hc
 have:=hc.1
 injection this with this
 injection this with _ this
 rw[r1,this]
end
end
section
open Go.RowKit Go.Maps
attribute [local go_sem] Oper.semAt_some
theorem hKI:Tryz.prog.underlying 3=some (.int .i64):=by kernel_rfl
theorem hMI:Tryz.prog.underlying 104=some (.map 3 3):=by kernel_rfl
theorem hZI (w:World):(zeroValue 3).run Tryz.prog w=.ok (.int .i64 0) w:=by kernel_rfl
/-- the memory whose old space is a space -/
def Mm.one (s:Spc):Mm:=⟨s,Spc.new 16777216 0⟩
theorem MapI.ne_bk {P:Program} {k e t:TypeId} {w:World} {b n g:Nat} {f:Int→Option Int} {cs:Array Value} (h:MapI P k e w b n f) (hk:Bk w g t cs):g≠b:=fun e=>by
 subst e
 obtain⟨D,⟨es,clock,h1,_⟩,_⟩:=h
 unfold Bk at hk
 rw[h1] at hk
 cases hk
theorem MapI.ne_own {P:Program} {k e t:TypeId} {w:World} {b n B s m:Nat} {f:Int→Option Int} {V:Value} {xs:List Value} (h:MapI P k e w b n f) (hl:w.ownsRow B t s V m xs):V.ownBlock≠some b:=fun he=>by
 obtain⟨_,⟨rfl,_⟩ | ⟨g',cap,cur,rfl,_,h4,_⟩⟩:=hl
 ·cases he
 ·injection he with he;exact h.ne_bk (show Bk w g' _ cur from h4) he
section
variable {w:World} {B g1 g2:Nat} {V1 V2:Value} {m:Mm}
end
section
variable {w:World} {B g1 g2 Bm g b n:Nat} {V1 V2:Value} {m:Mm} {f:Int→Option Int} {ws:Int}
theorem MHdr_of (h:MR w B g1 g2 V1 V2 m) (a:Int):Calls Tryz.prog 21 #[.agg #[.pointer (some ⟨g1,0,none⟩),.pointer (some ⟨g2,0,none⟩)],.int .i64 a] w fun e w'=>e=.returned (.tuple #[.agg #[.int .i64 (m.hdr a).2.k,.int .i64 (m.hdr a).2.c,.int .i64 (m.hdr a).2.f],.int .i64 (m.hdr a).1])∧Below w.heap.size w w':=MHeader_any h a
end
end
section
open Go.RowKit Go.Maps
attribute [local go_sem] Oper.semAt_some
theorem Tryz.infoI:(Tryz.prog.info? 3).map (fun i=>(i.zero,i.size,i.bytes))=some (some (.int .i64 0),1,8):=by kernel_rfl
/-- the row behind block N does not lie in block T -/
def ApartR (w:World) (N T:Nat):Prop:=∀ v,w.cell? ⟨N,0,none⟩=some v→v.ownBlock≠some T
/-- what the closure leaves alone -/
structure FR (Ns g b:Nat) (w w':World):Prop where
 sz:w.heap.size≤w'.heap.size
 bk:∀ T,T < w.heap.size→T≠g→T≠b→T≠Ns→ApartR w Ns T→w'.heap[T]?=w.heap[T]?∧ApartR w' Ns T
section
variable {Ns g b:Nat} {w w1 w2:World}
theorem FR.refl:FR Ns g b w w:=⟨Nat.le_refl _,fun T _ _ _ _ h=>⟨rfl,h⟩⟩
theorem FR.trans (h:FR Ns g b w w1) (h':FR Ns g b w1 w2):FR Ns g b w w2 :=
 ⟨Nat.le_trans h.sz h'.sz,fun T h0 h1 h2 h3 h4=>by
  obtain⟨e1,a1⟩:=h.bk T h0 h1 h2 h3 h4
  obtain⟨e2,a2⟩:=h'.bk T (Nat.lt_of_lt_of_le h0 h.sz) h1 h2 h3 a1
  exact⟨e2.trans e1,a2⟩⟩
theorem FR.kp (hk:Kp (fun k=>k=g ∨ k=b) w w1) (hN:Ns < w.heap.size) (h1:Ns≠g) (h2:Ns≠b):FR Ns g b w w1 :=
 ⟨hk.size,fun T h0 t1 t2 _ h4=>⟨hk.block T h0 (fun e=>e.elim t1 t2),fun v hv=>h4 v (by
  rw[← hv]
  exact(World.cell?_of_block (w:=w) (a:=⟨Ns,0,none⟩) (hk.block Ns hN fun e=>e.elim h1 h2)).symm)⟩⟩
theorem FR.below (hb:Below w.heap.size w w1) (hN:Ns < w.heap.size):FR Ns g b w w1 :=
 ⟨hb.size,fun T h0 _ _ _ h4=>⟨hb.block T h0,fun v hv=>h4 v (by
  rw[← hv]
  exact(World.cell?_of_block (w:=w) (a:=⟨Ns,0,none⟩) (hb.block Ns hN)).symm)⟩⟩
end
theorem ownRow_bk {w:World} {B g n s:Nat} {e t:TypeId} {V:Value} {xs:List Value} {c:Array Value} (hl:w.ownsRow B e s V n xs) (h:Bk w g t c) (ht:t≠e):V.ownBlock≠some g:=fun he=>by
 obtain⟨_,⟨rfl,_⟩ | ⟨g2,cap,cur,rfl,_,h4,_⟩⟩:=hl
 ·cases he
 ·injection he with he
  change g2=g at he
  rw[he] at h4
  unfold Bk at h
  rw[h] at h4
  injection h4 with h4
  injection h4 with _ h4
  exact ht h4
theorem Bk.neT {w:World} {g g':Nat} {t t':TypeId} {C C':Array Value} (h:Bk w g t C) (h':Bk w g' t' C') (ht:t≠t'):g≠g':=fun e=>by
 subst e
 unfold Bk at h h'
 rw[h] at h'
 cases h'
 exact ht rfl
section
variable {w w':World} {B B1 Nm Nx Ns g b g1 gy:Nat} {V1 V2:Value} {m:Mm} {k:List Int × List Int}
end
section
variable {w:World} {B B1 Nm Nx Ns g b g1 gy:Nat} {V1 V2:Value} {m:Mm} {k:List Int × List Int} {l:List Int} {A:Option Addr} {c:Nat}
end
end
section
open Go.RowKit Go.Sort
attribute [local go_sem] Oper.semAt_some onlyN_normal
section
variable {w:World} {l:List Int} {A:Option Addr} {c:Nat}
set_option maxHeartbeats 1000000 in
theorem Pick10_any (h:IS w l A c) (hl:l.length≤1000000) (a:Int) (ha:-9223372036854775808≤a∧a≤9223372036854775807):Calls Tryz.prog 47 #[.slice A l.length c,.int .i64 a] w fun e w'=>e=.returned (.int .i64 (objAt l a))∧w=w':=by
 by_cases he:l=[]
 ·subst he
  have hk:=lh (objAt_nil a)
  clear h
  go_enter Tryz.func47,Tryz.ntmps47
  go_wp2_with fail
  go_ret
  rw[hk.out]
  exact⟨rfl,rfl⟩
 ·have hp:0 < l.length:=List.length_pos_iff.2 he
  have hn:((l.length:Int) == 0)=false:=by simp;exact he
  obtain⟨hi,hie⟩:=objI_lt he a
  obtain⟨b,o,rfl,hbl,hcc⟩:=h.sl.get hi
  obtain⟨x,hx⟩:∃ x,l[objI l a]?=some x:=⟨_,List.getElem?_eq_getElem hi⟩
  have cx:w.cell? ⟨b,o+objI l a,none⟩=some (.int .i64 x):=hcc _ _ (ints_get hx)
  have hk:=lh (show objAt l a=x by unfold objAt;rw[hx])
  have hic:objI l a < c:=by have:=h.cap;omega
  obtain⟨i,hii⟩:∃ i,i=objI l a:=⟨_,rfl⟩
  rw[← hii] at hi hie cx hic
  have hN:0 < (l.length:Int):=by omega
  have hr1:-(l.length:Int) < a.tmod l.length:=Int.lt_tmod_of_pos a hN
  have hr2:a.tmod l.length < (l.length:Int):=Int.tmod_lt_of_pos a hN
  have hne:(l.length:Int)≠0:=by omega
  clear h he hcc hx hii
  generalize l.length=N at *
  obtain⟨r,hr⟩:∃ r,r=a.tmod (N:Int):=⟨_,rfl⟩
  rw[← hr] at hie hr1 hr2
  have hrr:a.tmod (N:Int)=r:=hr.symm
  have dn:decide (N≤i)=false:=decide_eq_false (by omega)
  by_cases hr0:r < 0
  ·have e1:(r+(N:Int)).tmod N=r+(N:Int):=Int.tmod_eq_of_lt (by omega) (by omega)
   rw[e1] at hie
   have hrn:r+(N:Int)=(i:Int):=hie.symm
   have hwr:IntKind.i64.wrap (r+(N:Int))=(i:Int):=by rw[hrn];exact IntWalk.i64_in _ (by omega)
   have dl:decide ((i:Int) < 0)=false:=decide_eq_false (by omega)
   clear e1 hie hr
   go_enter Tryz.func47,Tryz.ntmps47
   go_wp2_with fail
   go_ret
   rw[hk.out]
   exact⟨rfl,rfl⟩
  ·have e1:(r+(N:Int)).tmod N=r:=by
    rw[Int.tmod_eq_emod_of_nonneg (by omega),Int.add_emod_right]
    exact Int.emod_eq_of_lt (by omega) hr2
   rw[e1] at hie
   subst hie
   have dl:decide ((i:Int) < 0)=false:=decide_eq_false (by omega)
   have hi3:a.tmod (N:Int)=(i:Int):=hrr
   clear e1 hr hrr
   go_enter Tryz.func47,Tryz.ntmps47
   go_wp2_with fail
   go_ret
   rw[hk.out]
   exact⟨rfl,rfl⟩
end
def hcs (hs:List Hdr):List Value:=hs.flatMap fun h=>[.int .i64 h.k,.int .i64 h.c,.int .i64 h.f]
theorem hcs_app (hs:List Hdr) (h:Hdr):hcs (hs++[h])=hcs hs++[.int .i64 h.k,.int .i64 h.c,.int .i64 h.f]:=by simp[hcs]
structure P15 where
 W:World
 B:Nat
 Nx:Nat
 bo:Nat
 xs:List Int
 hs:List Hdr
 Vx:Value
 Vh:Value
 Tv:Value
 ad:Int
 hd:Hdr
 c0:Value
 c1:Value
 c2:Value
 c3:Value
 c4:Value
 c5:Value
 d0:Value
 d1:Value
 d2:Value
 d3:Value
 d4:Value
 d5:Value
def P15.VL (p:P15):List (Option Value):=[some (.agg #[p.d0,p.d1,p.d2,p.d3,p.d4,p.d5]),some (.pointer (some ⟨p.Nx,7,none⟩)),some p.Vx,some (.int .i64 p.ad),none,none,some (.pointer (some ⟨p.Nx,8,none⟩)),some p.Vh,some (.pointer (some ⟨p.bo,1,none⟩)),some (.agg #[.int .i64 p.hd.k,.int .i64 p.hd.c,.int .i64 p.hd.f]),none,none,some (.pointer (some ⟨p.Nx,0,none⟩)),none,some (.pointer (some ⟨p.Nx,7,none⟩)),none,some (.pointer (some ⟨p.Nx,8,none⟩)),none]
def P15.cx (p:P15) (L:Array Bool) (vs:Nat→Value):Array Value:=#[stg L 13 p.c0 p.d0,stg L 13 p.c1 p.d1,stg L 13 p.c2 p.d2,stg L 13 p.c3 p.d3,stg L 13 p.c4 p.d4,stg L 13 p.c5 p.d5,p.Tv,stg L 15 p.Vx (vs 5),stg L 17 p.Vh (vs 11)]
structure R15 (p:P15) (L:Array Bool) (vs:Nat→Value) (w:World):Prop where
 v:Vals p.VL L vs
 k:Kp (fun k=>k=p.Nx ∨ p.Vx.ownBlock=some k ∨ p.Vh.ownBlock=some k) p.W w
 b4:L.getD 4 false=true→L.getD 5 false=false→∃ g,vs 4=.slice (some ⟨g,0,none⟩) 1 1∧Bk w g 3 #[.int .i64 p.ad]∧p.W.heap.size≤g
 b10:L.getD 10 false=true→L.getD 11 false=false→∃ g,vs 10=.slice (some ⟨g,0,none⟩) 1 1∧Bk w g 58 #[.int .i64 p.hd.k,.int .i64 p.hd.c,.int .i64 p.hd.f]∧p.W.heap.size≤g
 r5:L.getD 5 false=false→w.ownsRow p.B 3 1 p.Vx p.xs.length (ints p.xs)
 q5:L.getD 5 false=true→w.ownsRow p.B 3 1 (vs 5) (p.xs.length+1) (ints p.xs++[.int .i64 p.ad])∧∀ q,(vs 5).ownBlock=some q→p.Vx.ownBlock=some q ∨ p.W.heap.size≤q
 r11:L.getD 11 false=false→w.ownsRow p.B 58 3 p.Vh p.hs.length (hcs p.hs)
 q11:L.getD 11 false=true→w.ownsRow p.B 58 3 (vs 11) (p.hs.length+1) (hcs p.hs++[.int .i64 p.hd.k,.int .i64 p.hd.c,.int .i64 p.hd.f])∧∀ q,(vs 11).ownBlock=some q→p.Vh.ownBlock=some q ∨ p.W.heap.size≤q
 x:Bk w p.Nx 40 (p.cx L vs)
section
variable {p:P15} {L:Array Bool} {vs:Nat→Value} {w w':World} {i:Nat} {v:Value}
theorem updV {i k:Nat} {v:Value} {vs:Nat→Value} (h:k≠i):(fun j=>if j=i then v else vs j) k=vs k:=if_neg h
theorem P15.cx_set (p:P15) (L:Array Bool) (vs:Nat→Value) {i:Nat} (v:Value) (h5:i≠5) (h11:i≠11) (h13:i≠13) (h15:i≠15) (h17:i≠17):p.cx (L.setIfInBounds i true) (fun j=>if j=i then v else vs j)=p.cx L vs:=by
 unfold P15.cx
 simp only[stg_set _ _ h13,stg_set _ _ h15,stg_set _ _ h17,updV (v:=v) (vs:=vs) (Ne.symm h5),updV (v:=v) (vs:=vs) (Ne.symm h11)]
/-- an operation that only reads -/
theorem R15.pure (h:R15 p L vs w) (hi:i≠4∧i≠5∧i≠10∧i≠11∧i≠13∧i≠15∧i≠17) (hv:∀ x,p.VL[i]?=some (some x)→v=x):R15 p (L.setIfInBounds i true) (fun j=>if j=i then v else vs j) w:=by
 obtain⟨h4,h5,h10,h11,h13,h15,h17⟩:=hi
 refine⟨h.v.put hv,h.k,?_,?_,?_,?_,?_,?_,?_⟩
 ·rw[getD_set_ne false h4,getD_set_ne false h5,if_neg (Ne.symm h4)];exact h.b4
 ·rw[getD_set_ne false h10,getD_set_ne false h11,if_neg (Ne.symm h10)];exact h.b10
 ·rw[getD_set_ne false h5];exact h.r5
 ·rw[getD_set_ne false h5,if_neg (Ne.symm h5)];exact h.q5
 ·rw[getD_set_ne false h11];exact h.r11
 ·rw[getD_set_ne false h11,if_neg (Ne.symm h11)];exact h.q11
 ·rw[p.cx_set L vs v h5 h11 h13 h15 h17];exact h.x
theorem R15.b (h:R15 p L vs w) {o:Obj} (hw:w'=w.alloc o):(∀ {g:Nat} {t:TypeId} {C:Array Value},Bk w g t C→Bk w' g t C)∧(∀ {B n z:Nat} {e:TypeId} {V:Value} {xs:List Value},w.ownsRow B e z V n xs→w'.ownsRow B e z V n xs)∧Kp (fun k=>k=p.Nx ∨ p.Vx.ownBlock=some k ∨ p.Vh.ownBlock=some k) p.W w':=by
 subst hw
 have hb:Below w.heap.size w (w.alloc o):=(Below.refl _ _).alloc (Nat.le_refl _) _
 exact⟨fun h=>h.alloc _,fun h=>own_local h fun k hk=>hb.block k (h.lt k hk).2,h.k.trans (Kp.of_below (S:=fun k=>k=p.Nx ∨ p.Vx.ownBlock=some k ∨ p.Vh.ownBlock=some k) hb) fun _ _ e=>e⟩
theorem R15.alloc4 (h:R15 p L vs w) (hl:4 < L.size):R15 p (L.setIfInBounds 4 true) (fun j=>if j=4 then .slice (some ⟨w.heap.size,0,none⟩) 1 1 else vs j) (w.alloc (.cells #[.int .i64 p.ad] 3)):=by
 obtain⟨hB,hO,hK⟩:=h.b (o:=.cells #[.int .i64 p.ad] 3) rfl
 refine⟨h.v.put (fun x hx=>by cases hx),hK,fun _ _=>⟨w.heap.size,rfl,Bk.new _ _ _,h.k.size⟩,?_,?_,?_,?_,?_,?_⟩
 ·rw[getD_set_ne false (by decide),getD_set_ne false (by decide)];simp only[Nat.reduceEqDiff,↓reduceIte]
  exact fun a b=>let ⟨g,e,h1,h2⟩:=h.b10 a b;⟨g,e,hB h1,h2⟩
 ·rw[getD_set_ne false (by decide)];exact fun a=>hO (h.r5 a)
 ·rw[getD_set_ne false (by decide)];simp only[Nat.reduceEqDiff,↓reduceIte];exact fun a=>⟨hO (h.q5 a).1,(h.q5 a).2⟩
 ·rw[getD_set_ne false (by decide)];exact fun a=>hO (h.r11 a)
 ·rw[getD_set_ne false (by decide)];simp only[Nat.reduceEqDiff,↓reduceIte];exact fun a=>⟨hO (h.q11 a).1,(h.q11 a).2⟩
 ·rw[p.cx_set L vs _ (by decide) (by decide) (by decide) (by decide) (by decide)];exact hB h.x
theorem R15.alloc10 (h:R15 p L vs w) (hl:10 < L.size):R15 p (L.setIfInBounds 10 true) (fun j=>if j=10 then .slice (some ⟨w.heap.size,0,none⟩) 1 1 else vs j) (w.alloc (.cells #[.int .i64 p.hd.k,.int .i64 p.hd.c,.int .i64 p.hd.f] 58)):=by
 obtain⟨hB,hO,hK⟩:=h.b (o:=.cells #[.int .i64 p.hd.k,.int .i64 p.hd.c,.int .i64 p.hd.f] 58) rfl
 refine⟨h.v.put (fun x hx=>by cases hx),hK,?_,fun _ _=>⟨w.heap.size,rfl,Bk.new _ _ _,h.k.size⟩,?_,?_,?_,?_,?_⟩
 ·rw[getD_set_ne false (by decide),getD_set_ne false (by decide)];simp only[Nat.reduceEqDiff,↓reduceIte]
  exact fun a b=>let ⟨g,e,h1,h2⟩:=h.b4 a b;⟨g,e,hB h1,h2⟩
 ·rw[getD_set_ne false (by decide)];exact fun a=>hO (h.r5 a)
 ·rw[getD_set_ne false (by decide)];simp only[Nat.reduceEqDiff,↓reduceIte];exact fun a=>⟨hO (h.q5 a).1,(h.q5 a).2⟩
 ·rw[getD_set_ne false (by decide)];exact fun a=>hO (h.r11 a)
 ·rw[getD_set_ne false (by decide)];simp only[Nat.reduceEqDiff,↓reduceIte];exact fun a=>⟨hO (h.q11 a).1,(h.q11 a).2⟩
 ·rw[p.cx_set L vs _ (by decide) (by decide) (by decide) (by decide) (by decide)];exact hB h.x
theorem own_grown {w w':World} {B n z:Nat} {e:TypeId} {V:Value} {xs:List Value} {b:Option Nat} (h:w.ownsRow B e z V n xs) (hg:w.grownBy w' b) (hn:∀ k,V.ownBlock=some k→b≠some k):w'.ownsRow B e z V n xs :=
 own_local h fun k hk=>hg.block k (h.lt k hk).2 fun e=>hn k hk e.symm
theorem own_own_ne {w:World} {B B' n n' z z':Nat} {e e':TypeId} {V V':Value} {xs xs':List Value} (h:w.ownsRow B e z V n xs) (h':w.ownsRow B' e' z' V' n' xs') (he:e≠e'):∀ k,V.ownBlock=some k→V'.ownBlock≠some k:=fun k hk hk'=>by
 obtain⟨_,⟨rfl,_⟩ | ⟨g,cap,cur,rfl,_,h4,_⟩⟩:=h
 ·cases hk
 ·injection hk with hk
  subst hk
  exact ownRow_bk h' (show Bk w _ e cur from h4) he hk'
theorem R15.app5 (h:R15 p L vs w) (hl:5 < L.size) (hu:L.getD 5 false=false) (hu15:L.getD 15 false=false) (ho:w'.ownsRow p.B 3 1 v (p.xs.length+1) (ints p.xs++[.int .i64 p.ad])) (hg:w.grownBy w' p.Vx.ownBlock) (hloc:v.ownBlock=p.Vx.ownBlock ∨ v.ownBlock=some w.heap.size) :
  R15 p (L.setIfInBounds 5 true) (fun j=>if j=5 then v else vs j) w':=by
 have hr:=h.r5 hu
 have hnS:∀ {g:Nat} {t:TypeId} {C:Array Value},Bk w g t C→t≠3→some g≠p.Vx.ownBlock:=fun hb ht e=>ownRow_bk hr hb ht e.symm
 refine⟨h.v.put (fun x hx=>by cases hx),h.k.trans (Kp.of_grown (S:=fun k=>p.Vx.ownBlock=some k) hg fun k hk=>hk) (fun _ _ e=>.inr (.inl e)),?_,?_,?_,?_,?_,?_,?_⟩
 ·intro _ e;rw[getD_set_self hl] at e;cases e
 ·rw[getD_set_ne false (by decide),getD_set_ne false (by decide)];simp only[Nat.reduceEqDiff,↓reduceIte]
  exact fun a b=>let ⟨g,e,h1,h2⟩:=h.b10 a b;⟨g,e,h1.grown hg (hnS h1 (by decide)),h2⟩
 ·intro e;rw[getD_set_self hl] at e;cases e
 ·intro _
  refine⟨ho,fun q hq=>?_⟩
  have hq:v.ownBlock=some q:=hq
  rcases hloc with e | e
  ·rw[e] at hq;exact .inl hq
  ·rw[e] at hq
   cases hq
   exact .inr h.k.size
 ·rw[getD_set_ne false (by decide)]
  exact fun a=>own_grown (h.r11 a) hg (own_own_ne (h.r11 a) hr (by decide))
 ·rw[getD_set_ne false (by decide)];simp only[Nat.reduceEqDiff,↓reduceIte]
  exact fun a=>⟨own_grown (h.q11 a).1 hg (own_own_ne (h.q11 a).1 hr (by decide)),(h.q11 a).2⟩
 ·have e:p.cx (L.setIfInBounds 5 true) (fun j=>if j=5 then v else vs j)=p.cx L vs:=by
   unfold P15.cx
   simp only[stg_set _ _ (show(5:Nat)≠13 by decide),stg_set _ _ (show(5:Nat)≠15 by decide),stg_set _ _ (show(5:Nat)≠17 by decide),updV (v:=v) (vs:=vs) (show(11:Nat)≠5 by decide)]
   simp only[stg,hu15,Bool.false_eq_true,if_false]
  rw[e]
  exact h.x.grown hg (hnS h.x (by decide))
theorem R15.app11 (h:R15 p L vs w) (hl:11 < L.size) (hu:L.getD 11 false=false) (hu17:L.getD 17 false=false) (ho:w'.ownsRow p.B 58 3 v (p.hs.length+1) (hcs p.hs++[.int .i64 p.hd.k,.int .i64 p.hd.c,.int .i64 p.hd.f])) (hg:w.grownBy w' p.Vh.ownBlock) (hloc:v.ownBlock=p.Vh.ownBlock ∨ v.ownBlock=some w.heap.size) :
  R15 p (L.setIfInBounds 11 true) (fun j=>if j=11 then v else vs j) w':=by
 have hr:=h.r11 hu
 have hnS:∀ {g:Nat} {t:TypeId} {C:Array Value},Bk w g t C→t≠58→some g≠p.Vh.ownBlock:=fun hb ht e=>ownRow_bk hr hb ht e.symm
 refine⟨h.v.put (fun x hx=>by cases hx),h.k.trans (Kp.of_grown (S:=fun k=>p.Vh.ownBlock=some k) hg fun k hk=>hk) (fun _ _ e=>.inr (.inr e)),?_,?_,?_,?_,?_,?_,?_⟩
 ·rw[getD_set_ne false (by decide),getD_set_ne false (by decide)];simp only[Nat.reduceEqDiff,↓reduceIte]
  exact fun a b=>let ⟨g,e,h1,h2⟩:=h.b4 a b;⟨g,e,h1.grown hg (hnS h1 (by decide)),h2⟩
 ·intro _ e;rw[getD_set_self hl] at e;cases e
 ·rw[getD_set_ne false (by decide)]
  exact fun a=>own_grown (h.r5 a) hg (own_own_ne (h.r5 a) hr (by decide))
 ·rw[getD_set_ne false (by decide)];simp only[Nat.reduceEqDiff,↓reduceIte]
  exact fun a=>⟨own_grown (h.q5 a).1 hg (own_own_ne (h.q5 a).1 hr (by decide)),(h.q5 a).2⟩
 ·intro e;rw[getD_set_self hl] at e;cases e
 ·intro _
  refine⟨ho,fun q hq=>?_⟩
  have hq:v.ownBlock=some q:=hq
  rcases hloc with e | e
  ·rw[e] at hq;exact .inl hq
  ·rw[e] at hq
   cases hq
   exact .inr h.k.size
 ·have e:p.cx (L.setIfInBounds 11 true) (fun j=>if j=11 then v else vs j)=p.cx L vs:=by
   unfold P15.cx
   simp only[stg_set _ _ (show(11:Nat)≠13 by decide),stg_set _ _ (show(11:Nat)≠15 by decide),stg_set _ _ (show(11:Nat)≠17 by decide),updV (v:=v) (vs:=vs) (show(5:Nat)≠11 by decide)]
   simp only[stg,hu17,Bool.false_eq_true,if_false]
  rw[e]
  exact h.x.grown hg (hnS h.x (by decide))
/-- a store into the world -/
theorem R15.st (h:R15 p L vs w) (hi:i≠4∧i≠5∧i≠10∧i≠11) (hv:∀ x,p.VL[i]?=some (some x)→v=x) (hk:Kp (fun k=>k=p.Nx) w w') (hx:Bk w' p.Nx 40 (p.cx (L.setIfInBounds i true) (fun j=>if j=i then v else vs j))) (hN:p.Nx < p.W.heap.size):R15 p (L.setIfInBounds i true) (fun j=>if j=i then v else vs j) w':=by
 obtain⟨h4,h5,h10,h11⟩:=hi
 have hne:∀ {B n z:Nat} {e:TypeId} {V:Value} {xs:List Value},w.ownsRow B e z V n xs→e≠40→w'.ownsRow B e z V n xs:=fun hr he=>own_local hr fun k hk'=>hk.block k (hr.lt k hk').2 fun e=>ownRow_bk hr h.x (Ne.symm he) (e ▸ hk')
 refine⟨h.v.put hv,h.k.trans hk (fun _ _ e=>.inl e),?_,?_,?_,?_,?_,?_,hx⟩
 ·rw[getD_set_ne false h4,getD_set_ne false h5,if_neg (Ne.symm h4)]
  exact fun a b=>let ⟨g,e,h1,h2⟩:=h.b4 a b;⟨g,e,h1.kp hk (fun e=>by omega),h2⟩
 ·rw[getD_set_ne false h10,getD_set_ne false h11,if_neg (Ne.symm h10)]
  exact fun a b=>let ⟨g,e,h1,h2⟩:=h.b10 a b;⟨g,e,h1.kp hk (fun e=>by omega),h2⟩
 ·rw[getD_set_ne false h5];exact fun a=>hne (h.r5 a) (by decide)
 ·rw[getD_set_ne false h5,if_neg (Ne.symm h5)];exact fun a=>⟨hne (h.q5 a).1 (by decide),(h.q5 a).2⟩
 ·rw[getD_set_ne false h11];exact fun a=>hne (h.r11 a) (by decide)
 ·rw[getD_set_ne false h11,if_neg (Ne.symm h11)];exact fun a=>⟨hne (h.q11 a).1 (by decide),(h.q11 a).2⟩
theorem R15.st13 (h:R15 p L vs w) (hl:13 < L.size) (hN:p.Nx < p.W.heap.size):R15 p (L.setIfInBounds 13 true) (fun j=>if j=13 then undef else vs j) ((((((w.setCell ⟨p.Nx,0,none⟩ p.d0).setCell ⟨p.Nx,1,none⟩ p.d1).setCell ⟨p.Nx,2,none⟩ p.d2).setCell ⟨p.Nx,3,none⟩ p.d3).setCell ⟨p.Nx,4,none⟩ p.d4).setCell ⟨p.Nx,5,none⟩ p.d5):=by
 have k1:∀ (w:World) (q:Nat) (v:Value),Kp (fun k=>k=p.Nx) w (w.setCell ⟨p.Nx,q,none⟩ v):=fun w q v=>Kp.setCell _ _ _ rfl
 have tr:∀ {a b c:World},Kp (fun k=>k=p.Nx) a b→Kp (fun k=>k=p.Nx) b c→Kp (fun k=>k=p.Nx) a c:=fun h1 h2=>h1.trans h2 fun _ _ e=>e
 refine h.st (by decide) (fun x hx=>by cases hx) (tr (tr (tr (tr (tr (k1 _ _ _) (k1 _ _ _)) (k1 _ _ _)) (k1 _ _ _)) (k1 _ _ _)) (k1 _ _ _)) ?_ hN
 have h1:=(((((h.x.set 0 p.d0).set 1 p.d1).set 2 p.d2).set 3 p.d3).set 4 p.d4).set 5 p.d5
 unfold P15.cx at h1 ⊢
 simp only[stg_new _ _ hl,stg_set _ _ (show(13:Nat)≠15 by decide),stg_set _ _ (show(13:Nat)≠17 by decide),updV (v:=undef) (vs:=vs) (show(5:Nat)≠13 by decide),updV (v:=undef) (vs:=vs) (show(11:Nat)≠13 by decide)]
 exact h1
theorem R15.st15 (h:R15 p L vs w) (hl:15 < L.size) (hN:p.Nx < p.W.heap.size):R15 p (L.setIfInBounds 15 true) (fun j=>if j=15 then undef else vs j) (w.setCell ⟨p.Nx,7,none⟩ (vs 5)):=by
 refine h.st (by decide) (fun x hx=>by cases hx) (Kp.setCell _ _ _ rfl) ?_ hN
 have h1:=h.x.set 7 (vs 5)
 unfold P15.cx at h1 ⊢
 simp only[stg_new _ _ hl,stg_set _ _ (show(15:Nat)≠13 by decide),stg_set _ _ (show(15:Nat)≠17 by decide),updV (v:=undef) (vs:=vs) (show(5:Nat)≠15 by decide),updV (v:=undef) (vs:=vs) (show(11:Nat)≠15 by decide)]
 exact h1
theorem R15.st17 (h:R15 p L vs w) (hl:17 < L.size) (hN:p.Nx < p.W.heap.size):R15 p (L.setIfInBounds 17 true) (fun j=>if j=17 then undef else vs j) (w.setCell ⟨p.Nx,8,none⟩ (vs 11)):=by
 refine h.st (by decide) (fun x hx=>by cases hx) (Kp.setCell _ _ _ rfl) ?_ hN
 have h1:=h.x.set 8 (vs 11)
 unfold P15.cx at h1 ⊢
 simp only[stg_new _ _ hl,stg_set _ _ (show(17:Nat)≠13 by decide),stg_set _ _ (show(17:Nat)≠15 by decide),updV (v:=undef) (vs:=vs) (show(5:Nat)≠17 by decide),updV (v:=undef) (vs:=vs) (show(11:Nat)≠17 by decide)]
 exact h1
end
end
section
open Go.RowKit Go.Sort
attribute [local go_sem] Oper.semAt_some onlyN_normal
theorem i_hdr:(Tryz.prog.info? 58).map (fun i=>(i.zero,i.size,i.bytes))=some (some (.agg #[.int .i64 0,.int .i64 0,.int .i64 0]),3,24):=by kernel_rfl
theorem W10.step_bl (s:W10) (o:OpV):(s.step o).m.old.base=s.m.old.base∧(s.step o).m.old.limit=s.m.old.limit∧(s.step o).m.yng.base=s.m.yng.base:=by
 have ha:∀ y hd,(s.alloc y hd).m.old.base=s.m.old.base∧(s.alloc y hd).m.old.limit=s.m.old.limit∧(s.alloc y hd).m.yng.base=s.m.yng.base:=fun y hd=>by
  unfold W10.alloc
  split
  ·dsimp only
   unfold Mm.alloc
   split
   ·exact⟨rfl,rfl,(Spc.alloc_bl _ _ _).1⟩
   ·exact⟨(Spc.alloc_bl _ _ _).1,(Spc.alloc_bl _ _ _).2,rfl⟩
  ·exact⟨rfl,rfl,rfl⟩
 have hp:∀ {m':Mm},m'.Sh s.m→m'.old.base=s.m.old.base∧m'.old.limit=s.m.old.limit∧m'.yng.base=s.m.yng.base:=fun h=>⟨h.o.b,h.o.l,h.y.b⟩
 unfold W10.step
 split
 ·exact ha _ _
 ·split
  ·exact ha _ _
  ·split
   ·exact hp (bst_Sh _ _ _ _ _)
   ·split
    ·exact hp (Mm.setF_Sh _ _ _ _)
    ·split
     ·exact hp (Mm.store_Sh _ _ _)
     ·split
      ·exact⟨rfl,rfl,rfl⟩
      ·split
       ·exact hp (Mm.toFwd_Sh _ _ _)
       ·split
        ·exact hp (Mm.toStub_Sh _ _ _ _)
        ·exact⟨rfl,rfl,rfl⟩
theorem In10.stepR {limit:Int} {s:W10} {n:Nat} (h:In10 limit s n) (o:OpV) {w:World} {A1 A2:Option Addr} {c1 c2:Nat} (hm:RM w (s.step o).m A1 c1 A2 c2):In10 limit (s.step o) (n+1) :=
 let ⟨e1,e2,e3⟩:=s.step_bl o
 h.step o ⟨hm.o.ok,hm.y.ok,e1.trans h.ok.ob,by rw[e2];exact h.ok.ol,e3.trans h.ok.yb⟩
abbrev wrC (s:W10) (A1:Option Addr) (c1:Nat) (A2:Option Addr) (c2:Nat) (A:Option Addr) (c:Nat) (Vx Vh:Value):Array Value:=#[.int .i64 s.m.old.base,.int .i64 s.m.old.limit,.slice A1 s.m.old.ws.length c1,.int .i64 s.m.yng.base,.int .i64 s.m.yng.limit,.slice A2 s.m.yng.ws.length c2,.slice A s.cs.length c,Vx,Vh]
/-- the world of the play at block Nx -/
structure WR10 (w:World) (B Nx:Nat) (s:W10) (A1:Option Addr) (c1:Nat) (A2:Option Addr) (c2:Nat) (A:Option Addr) (c:Nat) (Vx Vh:Value):Prop where
 x:Bk w Nx 40 (wrC s A1 c1 A2 c2 A c Vx Vh)
 rm:RM w s.m A1 c1 A2 c2
 rc:RC w s.cs A c
 ox:w.ownsRow B 3 1 Vx s.xs.length (ints s.xs)
 oh:w.ownsRow B 58 3 Vh s.hs.length (hcs s.hs)
 d:∀ b o,A1=some ⟨b,o,none⟩ ∨ A2=some ⟨b,o,none⟩ ∨ A=some ⟨b,o,none⟩→b < w.heap.size∧Nx < b∧Vx.ownBlock≠some b∧Vh.ownBlock≠some b
section
variable {w w' w'':World} {B Nx:Nat} {s:W10} {A1 A2 A A1' A2' A':Option Addr} {c1 c2 c c1' c2' c':Nat} {Vx Vh:Value} {m':Mm} {cs':List Int}
theorem WR10.below (h:WR10 w B Nx s A1 c1 A2 c2 A c Vx Vh) (hb:Below w.heap.size w w'):WR10 w' B Nx s A1 c1 A2 c2 A c Vx Vh :=
 ⟨h.x.below hb h.x.lt,h.rm.below hb,h.rc.below hb,own_local h.ox fun k hk=>hb.block k (h.ox.lt k hk).2,own_local h.oh fun k hk=>hb.block k (h.oh.lt k hk).2,fun b o e=>let ⟨h1,h2⟩:=h.d b o e;⟨Nat.lt_of_lt_of_le h1 hb.size,h2⟩⟩
theorem RC.lt {cs:List Int} (h:RC w cs A c) (b o:Nat) (e:A=some ⟨b,o,none⟩):b < w.heap.size:=by
 rcases h.form with h1 | ⟨b',o',h1,h2⟩
 ·rw[h1] at e;cases e
 ·rw[h1] at e
  cases e
  exact h2
/-- new words, new cards: written into the world's block -/
theorem WR10.put (h:WR10 w B Nx s A1 c1 A2 c2 A c Vx Vh) (hb:Below w.heap.size w w') (hm:RM w' m' A1' c1' A2' c2') (hc:RC w' cs' A' c') (n1:Nw w.heap.size A1 A1') (n2:Nw w.heap.size A2 A2') (n3:Nw w.heap.size A A') (hk:Kp (fun k=>k=Nx) w' w'') (hx:Bk w'' Nx 40 (wrC ⟨m',cs',s.xs,s.hs⟩ A1' c1' A2' c2' A' c' Vx Vh)):WR10 w'' B Nx ⟨m',cs',s.xs,s.hs⟩ A1' c1' A2' c2' A' c' Vx Vh:=by
 have hN:=h.x.lt
 have hd:∀ b o,A1'=some ⟨b,o,none⟩ ∨ A2'=some ⟨b,o,none⟩ ∨ A'=some ⟨b,o,none⟩→b < w'.heap.size∧Nx < b∧Vx.ownBlock≠some b∧Vh.ownBlock≠some b:=fun b o e=>by
  have hlt:b < w'.heap.size:=e.elim (hm.o.lt b o) fun e=>e.elim (hm.y.lt b o) (hc.lt b o)
  have hor:(A1=some ⟨b,o,none⟩ ∨ A2=some ⟨b,o,none⟩ ∨ A=some ⟨b,o,none⟩) ∨ w.heap.size≤b:=by
   rcases e with e | e | e
   ·exact(n1 b o e).imp (fun h1=>.inl (h1.symm.trans e)) id
   ·exact(n2 b o e).imp (fun h1=>.inr (.inl (h1.symm.trans e))) id
   ·exact(n3 b o e).imp (fun h1=>.inr (.inr (h1.symm.trans e))) id
  rcases hor with h1 | h1
  ·exact⟨hlt,(h.d b o h1).2⟩
  ·exact⟨hlt,by omega,fun e=>by have:=(h.ox.lt b e).2;omega,fun e=>by have:=(h.oh.lt b e).2;omega⟩
 have oxe:∀ k,Vx.ownBlock=some k→k≠Nx:=fun k hk e=>ownRow_bk h.ox h.x (by decide) (e ▸ hk)
 have ohe:∀ k,Vh.ownBlock=some k→k≠Nx:=fun k hk e=>ownRow_bk h.oh h.x (by decide) (e ▸ hk)
 refine⟨hx,hm.kp hk fun b o e=>Nat.ne_of_gt (hd b o (e.imp id .inl)).2.1,hc.kp hk fun b o e=>Nat.ne_of_gt (hd b o (.inr (.inr e))).2.1,?_,?_,fun b o e=>let ⟨h1,h2⟩:=hd b o e;⟨Nat.lt_of_lt_of_le h1 hk.size,h2⟩⟩
 ·refine own_local h.ox fun k hk1=>?_
  have:=(h.ox.lt k hk1).2
  rw[hk.block k (Nat.lt_of_lt_of_le this hb.size) (oxe k hk1)]
  exact hb.block k this
 ·refine own_local h.oh fun k hk1=>?_
  have:=(h.oh.lt k hk1).2
  rw[hk.block k (Nat.lt_of_lt_of_le this hb.size) (ohe k hk1)]
  exact hb.block k this
end
section
variable {p:P15} {w w':World} {s:W10} {m':Mm} {A1 A2 A A1' A2':Option Addr} {c1 c2 c c1' c2':Nat} {L:Array Bool} {vs:Nat→Value}
/-- before the region -/
theorem R15.start (hw:p.W=w) (hx:Bk w p.Nx 40 #[p.c0,p.c1,p.c2,p.c3,p.c4,p.c5,p.Tv,p.Vx,p.Vh]) (ox:w.ownsRow p.B 3 1 p.Vx p.xs.length (ints p.xs)) (oh:w.ownsRow p.B 58 3 p.Vh p.hs.length (hcs p.hs)) (vs:Nat→Value):R15 p (Array.replicate 18 false) vs w.drew:=by
 subst hw
 refine⟨(fun i v _ h=>by rw[getD_replicate_false] at h;cases h),(Kp.refl _ _).drew,(fun h=>by rw[getD_replicate_false] at h;cases h),(fun h=>by rw[getD_replicate_false] at h;cases h),fun _=>own_local ox fun _ _=>rfl,(fun h=>by rw[getD_replicate_false] at h;cases h),fun _=>own_local oh fun _ _=>rfl,(fun h=>by rw[getD_replicate_false] at h;cases h),?_⟩
 have e:p.cx (Array.replicate 18 false) vs=#[p.c0,p.c1,p.c2,p.c3,p.c4,p.c5,p.Tv,p.Vx,p.Vh]:=by
  unfold P15.cx stg
  simp only[getD_replicate_false,Bool.false_eq_true,if_false]
 rw[e]
 exact hx
/-- after the region -/
theorem R15.done (h:R15 p L vs w') (hall:∀ j,j < 18→L.getD j false=true) (hm:RM p.W m' A1' c1' A2' c2') (hc:RC p.W s.cs A c) (hd:∀ b o,A1'=some ⟨b,o,none⟩ ∨ A2'=some ⟨b,o,none⟩ ∨ A=some ⟨b,o,none⟩→b < p.W.heap.size∧p.Nx < b∧p.Vx.ownBlock≠some b∧p.Vh.ownBlock≠some b)
  (hT:p.Tv=.slice A s.cs.length c) (e0:p.d0=.int .i64 m'.old.base) (e1:p.d1=.int .i64 m'.old.limit) (e2:p.d2=.slice A1' m'.old.ws.length c1') (e3:p.d3=.int .i64 m'.yng.base) (e4:p.d4=.int .i64 m'.yng.limit) (e5:p.d5=.slice A2' m'.yng.ws.length c2') :
  WR10 w' p.B p.Nx ⟨m',s.cs,p.xs++[p.ad],p.hs++[p.hd]⟩ A1' c1' A2' c2' A c (vs 5) (vs 11):=by
 have hq5:=h.q5 (hall 5 (by decide))
 have hq11:=h.q11 (hall 11 (by decide))
 have hs:∀ b o,A1'=some ⟨b,o,none⟩ ∨ A2'=some ⟨b,o,none⟩ ∨ A=some ⟨b,o,none⟩→¬ (b=p.Nx ∨ p.Vx.ownBlock=some b ∨ p.Vh.ownBlock=some b):=fun b o e hn=>by
  obtain⟨h1,h2,h3,h4⟩:=hd b o e
  rcases hn with hn | hn | hn
  ·exact Nat.ne_of_gt h2 hn
  ·exact h3 hn
  ·exact h4 hn
 refine⟨?_,hm.kp h.k fun b o e=>hs b o (e.imp id .inl),hc.kp h.k fun b o e=>hs b o (.inr (.inr e)),?_,?_,fun b o e=>?_⟩
 ·have:=h.x
  unfold P15.cx at this
  simp only[stg_done _ _ (hall 13 (by decide)),stg_done _ _ (hall 15 (by decide)),stg_done _ _ (hall 17 (by decide)),hT,e0,e1,e2,e3,e4,e5] at this
  exact this
 ·rw[List.length_append,List.length_singleton,show ints (p.xs++[p.ad])=ints p.xs++[.int .i64 p.ad] by simp[ints]]
  exact hq5.1
 ·rw[List.length_append,List.length_singleton,hcs_app]
  exact hq11.1
 ·obtain⟨h1,h2,h3,h4⟩:=hd b o e
  exact⟨Nat.lt_of_lt_of_le h1 h.k.size,h2,fun e=>(hq5.2 b e).elim h3 fun h=>by omega,fun e=>(hq11.2 b e).elim h4 fun h=>by omega⟩
theorem R15.keep (h:R15 p L vs w') {g:Nat} {t:TypeId} {C:Array Value} (hb:Bk p.W g t C) (hx:Bk p.W p.Nx 40 #[p.c0,p.c1,p.c2,p.c3,p.c4,p.c5,p.Tv,p.Vx,p.Vh]) (ox:p.W.ownsRow p.B 3 1 p.Vx p.xs.length (ints p.xs)) (oh:p.W.ownsRow p.B 58 3 p.Vh p.hs.length (hcs p.hs)) (h1:t≠40) (h2:t≠3) (h3:t≠58):Bk w' g t C :=
 hb.kp h.k fun e=>by
  rcases e with e | e | e
  ·subst e
   unfold Bk at hb hx
   rw[hb] at hx
   cases hx
   exact h1 rfl
  ·exact ownRow_bk ox hb h2 e
  ·exact ownRow_bk oh hb h3 e
end
/-- what Build leaves -/
def B10P (w:World) (s:W10) (e:Ending) (w':World):Prop:=∃ A1 c1 A2 c2 A c Vx Vh,e=.returned (.agg (wrC s A1 c1 A2 c2 A c Vx Vh))∧RM w' s.m A1 c1 A2 c2∧RC w' s.cs A c∧w'.ownsRow w.heap.size 3 1 Vx s.xs.length (ints s.xs)∧w'.ownsRow w.heap.size 58 3 Vh s.hs.length (hcs s.hs)∧(∀ b o,A1=some ⟨b,o,none⟩ ∨ A2=some ⟨b,o,none⟩ ∨ A=some ⟨b,o,none⟩→w.heap.size≤b)∧Below w.heap.size w w'
/-- a slice of operations in memory -/
def Op10 (w:World) (A:Option Addr) (l:List OpV):Prop:=l=[] ∨ ∃ b o,A=some ⟨b,o,none⟩∧b < w.heap.size∧∀ i x,l[i]?=some x→x.Ok∧∀ j v,x.cells[j]?=some v→w.cell? ⟨b,o+i*9+j,none⟩=some v
theorem Op10.below {w w':World} {B:Nat} {A:Option Addr} {l:List OpV} (h:Op10 w A l) (hb:Below B w w') (hB:B=w.heap.size):Op10 w' A l:=by
 subst hB
 rcases h with h | ⟨b,o,h1,h2,h3⟩
 ·exact .inl h
 ·exact .inr ⟨b,o,h1,Nat.lt_of_lt_of_le h2 hb.size,fun i x hx=>⟨(h3 i x hx).1,fun j v hv=>(hb.cell (p:=⟨b,o+i*9+j,none⟩) h2).trans ((h3 i x hx).2 j v hv)⟩⟩
end
end Go.Proofs.YtaijmgkjbbiboaaGreat
