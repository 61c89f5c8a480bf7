/- Parts of the proof: LwA, OpenK. -/
import Derived.Deep.Fields
import Derived.Deep.Slices
import Derived.OpenShut
import Derived.ProofKit
import Derived.SizedLaws
import Derived.Test.YtmbnlccafcfbeaaGreatDoorChecked
import Derived.Test.YtmbnlccafcfbeaaGreatDoorPaA
import Derived.Test.YtmbnlccafcfbeaaGreatDoorPa18
import Derived.Test.YtmbnlccafcfbeaaGreatDoorPa33
set_option linter.unusedVariables false
set_option linter.unusedSimpArgs false
set_option linter.unusedSectionVars false
set_option maxRecDepth 100000
namespace Go.Proofs.YtmbnlccafcfbeaaGreatDoor
section
open Go.RowKit Go.Sort
attribute [local go_sem] Oper.semAt_some
/-- a value that reads as a row of bytes, old or new -/
def RowC (l:List Int) (v:Value) (w:World):Prop:=∃ A c,v=.slice A l.length c∧Sl w 1 A l.length (byts l)∧l.length≤c∧∀ x,A=some x→x.spot=none
theorem RowC.bl (l:List Int):∀ v w w',RowC l v w→Below w.heap.size w w'→RowC l v w':=fun v w w' ⟨A,c,h1,h2,h3,h4⟩ hb=>⟨A,c,h1,h2.below hb,h3,h4⟩
theorem own_rowC {w:World} {base:Nat} {l:List Int} {v:Value} (h:w.ownsRow base 5 1 v l.length (byts l)):RowC l v w:=by
 obtain⟨A,c,rfl,_⟩:=own_shape h
 exact⟨A,c,rfl,own_sl h,own_le h,own_spot h⟩
theorem conv_all {w:World} {A:Option Addr} {c:Nat} {l:List Int} (hs:Sl w 1 A l.length (byts l)) (hA:∀ x,A=some x→x.spot=none):(convert 45 9 (.slice A l.length c)).run Tryz.prog w=.ok (.string (txt l)) w:=by
 have:=conv_txt (c:=c) hs hA (Nat.le_refl _)
 rw[List.take_length] at this
 exact this
theorem adds_row {P:Program} {W:World} {vs:Nat→Value} {w:World} {f:FuncId} {args:Array Value} {l:List Int} (h:Calls P f args w (EncP w l)):Made P (Adds (Ent.of (W:=W) (RowC l) (RowC.bl l)) vs w) (.ok (.enter f args) w) :=
 adds_call (hT:=RowC.bl _) (ob:=fun _=>none) h fun e w2 ⟨v,he,ho,hb⟩=>⟨_,he,own_rowC ho,hb,(fun k hk=>nomatch hk)⟩
theorem drf_cases (l:List Int) (h8:B8 l):(drf l=(Rf.zero,11)) ∨ ∃ y,drf l=(y,0)∧rfV y=true∧rfP y∧l=encRf y:=by
 unfold drf
 by_cases h:(decRf ⟨l,0⟩).2.e=0∧(decRf ⟨l,0⟩).2.b=[]∧rfV (decRf ⟨l,0⟩).1=true
 ·rw[if_pos h]
  have hb:=codRf.bw ⟨l,0⟩ h8 h.1
  rw[h.2.1,List.append_nil] at hb
  exact .inr ⟨_,rfl,h.2.2,hb.2.2,hb.2.1⟩
 ·rw[if_neg h];exact .inl rfl
section
variable {w:World} {l:List Int} {A:Option Addr} {c:Nat}
set_option maxHeartbeats 4000000 in
theorem LRefBytes_any (hs:Sl w 1 A l.length (byts l)) (hA:∀ x,A=some x→x.spot=none) (hc:l.length≤c) (h8:B8 l) (ht:Tb w):Calls Tryz.prog 8 #[.slice A l.length c] w (YesP w true):=by
 have HS:=lh (And.intro hs (And.intro hA (And.intro hc h8)))
 have HT:=lh ht
 clear hs hA hc h8 ht
 go_enter Tryz.func8,Tryz.ntmps8
 go_wp2_with fail
 refine(awake27 _ HT.out).mono ?_
 rintro e w1 ⟨rfl,hb1⟩
 have HB1:=lh hb1
 have HT1:=lh (HT.out.below hb1)
 clear hb1
 by_cases h4:100 < l.length
 ·have d0:decide ((100:Int) < (l.length:Int))=true:=decide_eq_true (by omega)
  clear h4
  go_wp2_with fail
  go_ret
  exact⟨rfl,HB1.out⟩
 ·have d0:decide ((100:Int) < (l.length:Int))=false:=decide_eq_false (by omega)
  have H4:=lh h4
  have cD:=DecodeRef_any (c:=c) (HS.out.1.below HB1.out) HS.out.2.2.1 HS.out.2.2.2 (by have:=H4.out;omega)
  clear h4
  rcases drf_cases l HS.out.2.2.2 with hd | ⟨y,hd,hv,hp,hl⟩
  ·rw[hd] at cD
   clear hd
   simp only[rfC,Rf.zero] at cD
   go_wp2_with fail
   refine cD.mono ?_
   rintro e w2 ⟨rfl,hb2⟩
   have HB2:=lh (HB1.out.trans (hb2.mono HB1.out.size))
   clear cD hb2
   go_wp2_with fail
   go_ret
   exact⟨rfl,HB2.out.alloc HB2.out.size _⟩
  ·rw[hd] at cD
   have HV:=lh (And.intro hv (And.intro hp hl))
   clear hd hv hp hl
   simp only[rfC] at cD
   go_upto_region 6 with (go_at_call 22;refine cD.mono ?_;rintro e w2 ⟨rfl,hb2⟩)
   have HB2:=lh (HB1.out.trans (hb2.mono HB1.out.size))
   obtain⟨w3,hw3⟩:∃ w3,w3=w2.alloc (.cells #[.int .i64 y.kind,.int .i64 y.int,.int .i64 y.owner,.int .u64 y.number,.int .i64 y.idm,.int .i64 y.ids,.int .i64 y.cls,.bool y.weak] 26):=⟨_,rfl⟩
   obtain⟨g3,hg3⟩:∃ g3,g3=w2.heap.size:=⟨_,rfl⟩
   have hb3:Below w2.heap.size w2 w3:=by rw[hw3];exact below_one _ _
   have HK3:Hid (Bk w3 g3 26 #[.int .i64 y.kind,.int .i64 y.int,.int .i64 y.owner,.int .u64 y.number,.int .i64 y.idm,.int .i64 y.ids,.int .i64 y.cls,.bool y.weak]):=lh (by rw[hw3,hg3];exact Bk.new _ _ _)
   have HB3:=lh (HB2.out.trans (hb3.mono HB2.out.size))
   rw[← hw3,← hg3]
   clear hw3 hg3 hb3 hb2
   go_upto_region 8 with fail
   refine wp_region_addsG 10 (fun i=>([[],[0],[1],[2],[2,3],[2,4],[2],[2,6],[2,5,7],[2,8]]:List (List Nat)).getD i []) (EL [Ent.val (.agg #[.int .i64 y.kind,.int .i64 y.int,.int .i64 y.owner,.int .u64 y.number,.int .i64 y.idm,.int .i64 y.ids,.int .i64 y.cls,.bool y.weak]),Ent.val (.bool true),Ent.val (.bool true),Ent.val (.agg #[.int .i64 y.kind,.int .i64 y.int,.int .i64 y.owner,.int .u64 y.number,.int .i64 y.idm,.int .i64 y.ids,.int .i64 y.cls,.bool y.weak]),Ent.of (RowC l) (RowC.bl _),Ent.val (.string (txt l)),Ent.val (.slice A l.length c),Ent.val (.string (txt l)),Ent.val (.bool true),Ent.val (.bool true)]) (by kernel_rfl) (by kernel_rfl) (by kernel_rfl) (by rfl) ?_ ?_ ?_
   ·intro i hi o ho g b hgb vs v wz hR
    rcases (show i=0 ∨ i=1 ∨ i=2 ∨ i=3 ∨ i=4 ∨ i=5 ∨ i=6 ∨ i=7 ∨ i=8 ∨ i=9 by omega) with rfl | rfl | rfl | rfl | rfl | rfl | rfl | rfl | rfl | rfl <;> cases ho <;> first | (cases hgb;exact hR) | cases hgb
   ·intro i hi o ho vs wz hb1 hgr
    rcases (show i=0 ∨ i=1 ∨ i=2 ∨ i=3 ∨ i=4 ∨ i=5 ∨ i=6 ∨ i=7 ∨ i=8 ∨ i=9 by omega) with rfl | rfl | rfl | rfl | rfl | rfl | rfl | rfl | rfl | rfl <;> cases ho
    ·clear hgr
     change Made _ (Adds _ _ _) (Sem.run _ (execOp (Act.eval (frm _ _ _ [])) _) _)
     simp only[frm]
     have hbk:=HK3.out.below hb1 HK3.out.lt
     have c0:wz.cell? ⟨g3,0,none⟩=some (.int .i64 y.kind):=hbk.cell 0
     have c1:wz.cell? ⟨g3,1,none⟩=some (.int .i64 y.int):=hbk.cell 1
     have c2:wz.cell? ⟨g3,2,none⟩=some (.int .i64 y.owner):=hbk.cell 2
     have c3:wz.cell? ⟨g3,3,none⟩=some (.int .u64 y.number):=hbk.cell 3
     have c4:wz.cell? ⟨g3,4,none⟩=some (.int .i64 y.idm):=hbk.cell 4
     have c5:wz.cell? ⟨g3,5,none⟩=some (.int .i64 y.ids):=hbk.cell 5
     have c6:wz.cell? ⟨g3,6,none⟩=some (.int .i64 y.cls):=hbk.cell 6
     have c7:wz.cell? ⟨g3,7,none⟩=some (.bool y.weak):=hbk.cell 7
     clear hbk
     go_simp
     exact adds_val rfl
    ·have h0:vs 0=_:=hgr 0 (by decide)
     clear hgr
     change Made _ (Adds _ _ _) (Sem.run _ (execOp (Act.eval (Act.put (frm _ _ _ []) (some 24) (vs 0))) _) _)
     simp only[frm,h0]
     have cM:=RVref_any wz y
     rw[HV.out.1] at cM
     go_simp
     exact adds_below cM
    ·have h1:vs 1=_:=hgr 1 (by decide)
     clear hgr
     change Made _ (Adds _ _ _) (Sem.run _ (execOp (Act.eval (Act.put (frm _ _ _ []) (some 25) (vs 1))) _) _)
     simp only[frm,h1]
     go_simp
     exact adds_val rfl
    ·have h2:vs 2=_:=hgr 2 (by decide)
     clear hgr
     change Made _ (Adds _ _ _) (Sem.run _ (execOp (Act.eval (Act.put (frm _ _ _ []) (some 26) (vs 2))) _) _)
     simp only[frm,h2]
     have hbk:=HK3.out.below hb1 HK3.out.lt
     have c0:wz.cell? ⟨g3,0,none⟩=some (.int .i64 y.kind):=hbk.cell 0
     have c1:wz.cell? ⟨g3,1,none⟩=some (.int .i64 y.int):=hbk.cell 1
     have c2:wz.cell? ⟨g3,2,none⟩=some (.int .i64 y.owner):=hbk.cell 2
     have c3:wz.cell? ⟨g3,3,none⟩=some (.int .u64 y.number):=hbk.cell 3
     have c4:wz.cell? ⟨g3,4,none⟩=some (.int .i64 y.idm):=hbk.cell 4
     have c5:wz.cell? ⟨g3,5,none⟩=some (.int .i64 y.ids):=hbk.cell 5
     have c6:wz.cell? ⟨g3,6,none⟩=some (.int .i64 y.cls):=hbk.cell 6
     have c7:wz.cell? ⟨g3,7,none⟩=some (.bool y.weak):=hbk.cell 7
     clear hbk
     go_simp
     exact adds_val rfl
    ·have h2:vs 2=_:=hgr 2 (by decide)
     have h3:vs 3=_:=hgr 3 (by decide)
     clear hgr
     change Made _ (Adds _ _ _) (Sem.run _ (execOp (Act.eval (Act.put (Act.put (frm _ _ _ []) (some 27) (vs 3)) (some 26) (vs 2))) _) _)
     simp only[frm,h2,h3]
     have cM:=EncodeRef_any (w:=wz) (x:=y) HV.out.2.1
     rw[HV.out.1,if_pos rfl,← HV.out.2.2] at cM
     go_simp
     exact adds_row cM
    ·have h2:vs 2=_:=hgr 2 (by decide)
     obtain⟨A4,c4,h4,s4,p4,q4⟩:=hgr 4 (by decide)
     clear hgr
     change Made _ (Adds _ _ _) (Sem.run _ (execOp (Act.eval (Act.put (Act.put (frm _ _ _ []) (some 28) (vs 4)) (some 26) (vs 2))) _) _)
     simp only[frm,h2,h4]
     have hcv:=conv_all (c:=c4) s4 q4
     go_simp
     exact adds_val rfl
    ·have h2:vs 2=_:=hgr 2 (by decide)
     clear hgr
     change Made _ (Adds _ _ _) (Sem.run _ (execOp (Act.eval (Act.put (frm _ _ _ []) (some 26) (vs 2))) _) _)
     simp only[frm,h2]
     go_simp
     exact adds_val rfl
    ·have h2:vs 2=_:=hgr 2 (by decide)
     have h6:vs 6=_:=hgr 6 (by decide)
     clear hgr
     change Made _ (Adds _ _ _) (Sem.run _ (execOp (Act.eval (Act.put (Act.put (frm _ _ _ []) (some 30) (vs 6)) (some 26) (vs 2))) _) _)
     simp only[frm,h2,h6]
     have hcv:=conv_all (c:=c) (HS.out.1.below (HB3.out.trans (hb1.mono HB3.out.size))) HS.out.2.1
     go_simp
     exact adds_val rfl
    ·have h2:vs 2=_:=hgr 2 (by decide)
     have h5:vs 5=_:=hgr 5 (by decide)
     have h7:vs 7=_:=hgr 7 (by decide)
     clear hgr
     change Made _ (Adds _ _ _) (Sem.run _ (execOp (Act.eval (Act.put (Act.put (Act.put (frm _ _ _ []) (some 31) (vs 7)) (some 29) (vs 5)) (some 26) (vs 2))) _) _)
     simp only[frm,h2,h5,h7]
     go_simp
     exact adds_val rfl
    ·have h2:vs 2=_:=hgr 2 (by decide)
     have h8:vs 8=_:=hgr 8 (by decide)
     clear hgr
     change Made _ (Adds _ _ _) (Sem.run _ (execOp (Act.eval (Act.put (Act.put (frm _ _ _ []) (some 32) (vs 8)) (some 26) (vs 2))) _) _)
     simp only[frm,h2,h8]
     go_simp
     exact adds_val rfl
   intro vs wz hb1 hall hap
   have h9:vs 9=_:=(hall 9 (by omega)).1
   clear hall hap
   change wpList _ _ _ [_] (Act.put (Act.put (Act.put (Act.put (Act.put (Act.put (Act.put (Act.put (Act.put (Act.put (frm _ _ _ []) (some 33) (vs 9)) (some 32) (vs 8)) (some 31) (vs 7)) (some 30) (vs 6)) (some 29) (vs 5)) (some 28) (vs 4)) (some 27) (vs 3)) (some 26) (vs 2)) (some 25) (vs 1)) (some 24) (vs 0)) _
   simp only[frm,h9]
   go_wp2_with fail
   go_ret
   exact⟨rfl,HB3.out.trans (hb1.mono HB3.out.size)⟩
end
end
section
open Go.ChangeShapes Go.WideShapes Go.ChangeAt Go.RowKit Go.Deep
def SlR {α:Type} (R:World→α→List Value→Prop) (w:World) (s:Nat) (A:Option Addr) (n:Nat) (xs:List α):Prop :=
 xs.length=n∧(n=0 ∨ ∃ b o,A=some ⟨b,o,none⟩∧b < w.heap.size∧∀ i x,xs[i]?=some x→∃ r:List Value,r.length=s∧R w x r∧∀ j v,r[j]?=some v→w.cell? ⟨b,o+i*s+j,none⟩=some v)
theorem SlR.nil {α:Type} (R:World→α→List Value→Prop) (w:World) (s:Nat) (A:Option Addr):SlR R w s A 0 []:=⟨rfl,.inl rfl⟩
theorem SlR.get {α:Type} {R:World→α→List Value→Prop} {w:World} {s n:Nat} {A:Option Addr} {xs:List α} (h:SlR R w s A n xs) {k:Nat} (hk:k < n) :
  ∃ b o x r,A=some ⟨b,o,none⟩∧b < w.heap.size∧xs[k]?=some x∧r.length=s∧R w x r∧∀ j v,r[j]?=some v→w.cell? ⟨b,o+k*s+j,none⟩=some v:=by
 rcases h.2 with h0 | ⟨b,o,hA,hb,hc⟩
 ·omega
 ·obtain⟨x,hx⟩:∃ x,xs[k]?=some x:=⟨_,List.getElem?_eq_getElem (by rw[h.1];exact hk)⟩
  obtain⟨r,h1,h2,h3⟩:=hc k x hx
  exact⟨b,o,x,r,hA,hb,hx,h1,h2,h3⟩
def Wgt {H:Type} (P:Program) (t:TypeId) (d:DataW H):Prop:=∀ n∈d.weights P t,n≤reachBytes
theorem weightsAll_mem {H:Type} {P:Program} {e:TypeId} {l:List (DataW H)} {d:DataW H} (hd:d∈l) {n:Nat} (hn:n∈d.weights P e):n∈DataW.weightsAll P e l:=by
 induction l with
 | nil=>cases hd
 | cons a r ih =>
  unfold DataW.weightsAll
  rcases List.mem_cons.1 hd with rfl | h
  ·exact List.mem_append_left _ hn
  ·exact List.mem_append_right _ (ih h)
theorem wgt_of {H:Type} {P:Program} {ts:List TypeId} {ds:List (DataW H)} (h:(DataW.weightsEach P ts ds).all (·≤reachBytes)=true) {j:Nat} {t:TypeId} {d:DataW H} (ht:ts[j]?=some t) (hd:ds[j]?=some d):Wgt P t d :=
 fun n hn=>by simpa using List.all_eq_true.1 h n (DataW.weights_mem_each ht hd n hn)
section
variable {H:Type} {enc:TypeId × Value→H} {w:World} {base:Nat} {spare:Nat→Bool} {held:Bool}
theorem spot_of_cell {a:Addr} {v:Value} (h:w.cell? a=some v):a=⟨a.block,a.off,none⟩:=by
 have:=World.cell?_spot h
 cases a
 simp_all
theorem choose_list {α:Type} {p:Nat→α→Prop}:∀ n,(∀ i,i < n→∃ x,p i x)→∃ l:List α,l.length=n∧∀ i x,l[i]?=some x→p i x
 | 0,_=>⟨[],rfl,fun i x h=>by cases h⟩
 | n+1,h=>by
  obtain⟨l,h1,h2⟩:=choose_list n (fun i hi=>h i (by omega))
  obtain⟨x,hx⟩:=h n (by omega)
  refine⟨l++[x],by simp[h1],fun i y hy=>?_⟩
  by_cases hi:i < n
  ·rw[List.getElem?_append_left (by omega)] at hy
   exact h2 i y hy
  ·have hin:i=n:=by
    have:=(List.getElem?_eq_some_iff.1 hy).1
    simp[h1] at this
    omega
   subst hin
   rw[List.getElem?_append_right (by omega),h1] at hy
   simp at hy
   exact hy ▸ hx
theorem open_slR {α:Type} (R:World→α→List Value→Prop) {t e:TypeId} {s bt:Nat} (ht:Tryz.prog.underlying t=some (.slice e)) (hs:Tryz.prog.cellsOf e=s) (hbt:Tryz.prog.bytesOf e=bt) (hb1:1≤bt) (hs0:1≤s)
  (hR:∀ fuel cs x,cs.length=s→DataW.trod enc Tryz.prog w base spare held fuel e cs=some x→Wgt Tryz.prog e x.1→∃ y,R w y cs)
  {fuel:Nat} {v:Value} {x:DataW H × List MemPlace} (h:DataW.trod enc Tryz.prog w base spare held fuel t [v]=some x) (hw:Wgt Tryz.prog t x.1) :
  ∃ A n c,v=.slice A n c∧n≤c∧n≤140737488351232∧∃ xs:List α,SlR R w s A n xs:=by
 rcases open_slice ht h with ⟨h0,_⟩ | ⟨a,len,cap,m,n,D,Pl,hcs,hb,hl,hm,hmm,hx,hi⟩
 ·simp only[List.cons.injEq,and_true] at h0
  subst h0
  exact⟨none,0,0,rfl,Nat.le_refl _,by omega,[],SlR.nil _ _ _ _⟩
 ·simp only[List.cons.injEq,and_true] at hcs
  subst hcs
  have hml:len≤m:=by rw[hmm];split <;> omega
  rw[hx] at hw
  have hlen:len≤140737488351232:=by
   have:=hw ((len+(m - len))*bt) (by simp[DataW.weights,ht,hbt])
   simp only[reachBytes] at this
   have h2:(len+(m - len))*1≤(len+(m - len))*bt:=Nat.mul_le_mul_left _ hb1
   omega
  refine⟨some a,len,cap,rfl,hl,hlen,?_⟩
  obtain⟨l,hl1,hp⟩:=choose_list (α:=α × List Value) (p:=fun i y=>y.2.length=s∧R w y.1 y.2∧∀ j v,y.2[j]?=some v→w.cell? (a.add (i*s+j))=some v) len (fun i hil=>by
   obtain⟨cs',hc,htr⟩:=hi i (by omega)
   rw[hs] at hc
   obtain⟨_,hcl,hat⟩:=World.cells?_some hc
   have hwi:Wgt Tryz.prog e (D i,Pl i).1:=fun n hn=>hw n (by
    simp only[DataW.weights,ht]
    refine List.mem_cons_of_mem _ (List.mem_append_left _ (weightsAll_mem (d:=D i) ?_ hn))
    exact List.mem_map.2 ⟨i,by simpa using hil,rfl⟩)
   obtain⟨y,hy⟩:=hR n cs' _ hcl htr hwi
   refine⟨(y,cs'),hcl,hy,fun j v hv=>?_⟩
   have hj:j < s:=by
    have:=(List.getElem?_eq_some_iff.1 hv).1
    rw[hcl] at this
    exact this
   have g:=hat j hj
   rw[Go.Deep.add_add] at g
   rw[← hv]
   simpa using g)
  refine⟨l.map (·.1),by simp[hl1],?_⟩
  rcases Nat.eq_zero_or_pos len with h0 | h0
  ·exact .inl h0
  ·focus
    obtain⟨y0,hy0⟩:∃ y,l[0]?=some y:=⟨_,List.getElem?_eq_getElem (by omega)⟩
    obtain⟨q1,q2,q3⟩:=hp 0 y0 hy0
    obtain⟨v0,hv0⟩:∃ v,y0.2[0]?=some v:=⟨_,List.getElem?_eq_getElem (by omega)⟩
    have q0:=q3 0 v0 hv0
    have ea:a=⟨a.block,a.off,none⟩:=by
     have:=spot_of_cell q0
     simpa [Addr.add] using this
    have eadd:∀ n,a.add n=⟨a.block,a.off+n,none⟩:=fun n=>by
     unfold Addr.add
     split
     ·rename_i h;subst h;exact ea
     ·rfl
    refine .inr ⟨a.block,a.off,by rw[← ea],?_,fun i x hx=>?_⟩
    ·have:=cell_lt q0
     rw[eadd] at this
     exact this
    ·obtain⟨y,hy,rfl⟩:∃ y,l[i]?=some y∧y.1=x:=by simpa using hx
     obtain⟨r1,r2,r3⟩:=hp i y hy
     refine⟨y.2,r1,r2,fun j v hv=>?_⟩
     have:=r3 j v hv
     rw[eadd] at this
     rw[Nat.add_assoc]
     exact this
theorem SlR.all {α:Type} {R:World→α→List Value→Prop} {s n:Nat} {A:Option Addr} {xs:List α} (h:SlR R w s A n xs) {P:α→Prop} (hP:∀ x r,R w x r→P x):∀ x∈xs,P x:=fun x hx=>by
 obtain⟨i,hi⟩:=List.mem_iff_getElem?.1 hx
 have hil:=(List.getElem?_eq_some_iff.1 hi).1
 obtain⟨b,o,y,r,_,_,hy,_,hR,_⟩:=h.get (k:=i) (by rw[← h.1];exact hil)
 rw[hi] at hy
 cases hy
 exact hP _ _ hR
theorem cellsU8:Tryz.prog.cellsOf 5=1:=by kernel_rfl
def U8R (w:World) (x:Int) (r:List Value):Prop:=r=[.int .u8 x]∧0≤x∧x≤255
theorem open_u8R (fuel:Nat) (cs:List Value) (x:DataW H × List MemPlace) (_:cs.length=1) (h:DataW.trod enc Tryz.prog w base spare held fuel 5 cs=some x) (_:Wgt Tryz.prog 5 x.1):∃ y,U8R w y cs:=by
 obtain⟨k,e0,_,w0⟩:=DataW.trod_int Tryz.underlying5 h
 simp only[Lit.wf,Bool.and_eq_true,decide_eq_true_eq] at w0
 have e1:IntKind.u8.min=0:=rfl
 have e2:IntKind.u8.max=255:=rfl
 rw[e1,e2] at w0
 exact⟨k,e0,w0.1,w0.2⟩
theorem slice_spot {r:_root_.Go.Reach} {b0:Nat} {a:Addr} {n c:Nat} (hv:Value.okWide Tryz.prog w r b0 45 (.slice (some a) n c)):a.spot=none:=by
 simp only[Value.okWide,Tryz.underlying45,Cell.okWide,Cell.ok] at hv
 have h:=hv.2.2
 simp only[World.has] at h
 exact h.2.1
theorem open_bytesV {b0:Nat} {r:_root_.Go.Reach} {v:Value} {d:DataW H} {p:List MemPlace} (hv:Value.okWide Tryz.prog w r b0 45 v) (h:DataW.Trod enc Tryz.prog w base spare held 45 v d p) (hw:Wgt Tryz.prog 45 d) :
  ∃ A c l,v=.slice A l.length c∧Sl w 1 A l.length (byts l)∧l.length≤c∧l.length≤140737488351232∧B8 l∧∀ x,A=some x→x.spot=none:=by
 obtain⟨X,l,c,rfl⟩:=Go.WideShapes.okWide_slice Tryz.underlying45 hv
 obtain⟨fuel,hf⟩:=h
 obtain⟨A,n,c',e,h1,h2,xs,hxs⟩:=open_slR U8R Tryz.underlying45 cellsU8 (show Tryz.prog.bytesOf 5=1 by kernel_rfl) (by omega) (by omega) open_u8R (show DataW.trod enc Tryz.prog w base spare held fuel 45 [.slice X l c]=some (d,p) from hf) hw
 have hall:=hxs.all (P:=fun x=>0≤x∧x≤255) fun x r hr=>hr.2
 obtain⟨g1,g2⟩:=hxs
 subst g1
 refine⟨A,c',xs,e,⟨by simp[byts],?_⟩,h1,h2,hall,fun x hA=>?_⟩
 ·rcases g2 with g2 | ⟨b,o,g3,g4,g5⟩
  ·exact .inl g2
  ·refine .inr ⟨b,o,g3,g4,fun j v hv=>?_⟩
   obtain⟨x,hx,rfl⟩:∃ x,xs[j]?=some x∧.int .u8 x=v:=by simpa [byts] using hv
   obtain⟨r,_,⟨hr,_⟩,hc⟩:=g5 j x hx
   have:=hc 0 (.int .u8 x) (by rw[hr];rfl)
   simpa using this
 ·rw[e,hA] at hv
  exact slice_spot hv
end
end
end Go.Proofs.YtmbnlccafcfbeaaGreatDoor
