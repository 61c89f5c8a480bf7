/- Parts of the proof: RcK2. -/
import Derived.Test.YtmbnlccafcfbeaaGreatDoorPfA
import Derived.Test.YtmbnlccafcfbeaaGreatDoorPf14
set_option linter.unusedVariables false
set_option linter.unusedSimpArgs false
set_option linter.unusedSectionVars false
set_option maxRecDepth 100000
set_option maxHeartbeats 64000000
namespace Go.Proofs.YtmbnlccafcfbeaaGreatDoor
section
open Go.RowKit
attribute [local go_sem] Oper.semAt_some
theorem qb4:∀ (l:List Value) (Z:Array Value) (o:Nat),(qd0 Z o l).size=Z.size
 | [],_,_=>rfl
 | v::l,Z,o=>by rw[qd0,qb4 l];simp
def KS (g g5:Nat) (M:Array Value) (Zs:List (Array Value)) (W:World):List Value→World→Prop:=fun l w=>Bk w g 42 M∧Bk w g5 42 (Zs.getD l.length #[])∧Kp (fun k=>k=g5) W w
theorem bz_keep2_1 {w:World} {g:Nat} {t:TypeId} {Z:Array Value} (h:Bk w g t Z) (v0:Value):Bk ((w).setCell ⟨g,1,none⟩ v0) g t (qd0 Z 1 [v0]):=(h.set 1 v0)
theorem fz_keep2_1 {w:World} {g k:Nat} {t:TypeId} {Z:Array Value} (h:Bk w k t Z) (hn:k≠g) (v0:Value):Bk ((w).setCell ⟨g,1,none⟩ v0) k t Z:=(h.far (p:=⟨g,1,none⟩) hn v0)
theorem kz_keep2_1 {w:World} {g:Nat} (v0:Value):Kp (fun k=>k=g) w ((w).setCell ⟨g,1,none⟩ v0):=(Kp.refl _ _).trans (Kp.setCell (S:=fun k=>k=g) _ ⟨g,1,none⟩ v0 rfl) (fun _ _ h=>h)
theorem bz_keep2_2 {w:World} {g:Nat} {t:TypeId} {Z:Array Value} (h:Bk w g t Z) (v0:Value):Bk ((w).setCell ⟨g,2,none⟩ v0) g t (qd0 Z 2 [v0]):=(h.set 2 v0)
theorem fz_keep2_2 {w:World} {g k:Nat} {t:TypeId} {Z:Array Value} (h:Bk w k t Z) (hn:k≠g) (v0:Value):Bk ((w).setCell ⟨g,2,none⟩ v0) k t Z:=(h.far (p:=⟨g,2,none⟩) hn v0)
theorem kz_keep2_2 {w:World} {g:Nat} (v0:Value):Kp (fun k=>k=g) w ((w).setCell ⟨g,2,none⟩ v0):=(Kp.refl _ _).trans (Kp.setCell (S:=fun k=>k=g) _ ⟨g,2,none⟩ v0 rfl) (fun _ _ h=>h)
theorem keep2 {w:World} (x:Ms) {A1 A2 A3 A4 A5 A6 A7 A8:Option Addr} {c1 c2 c3 c4 c5 c6 c7 c8:Nat} {M Z:Array Value} (hM:M=(mC x A1 A2 A3 A4 A5 A6 A7 A8 c1 c2 c3 c4 c5 c6 c7 c8)) {g5:Nat} (hz:Bk w g5 42 Z) (hs:Z.size=39):Calls Tryz.prog 143 #[pq g5 0,.agg M] w (qq5 g5 (qd0 (qd0 Z 1 [uv x.number]) 2 [iv x.asker]) w):=by
 have HM:=lh hM;clear hM
 obtain⟨W,hW⟩:∃ W,W=w.alloc (.cells M 42):=⟨_,rfl⟩
 obtain⟨g,hg⟩:∃ g,g=w.heap.size:=⟨_,rfl⟩
 have hb0:bw w W:=by rw[hW];exact qa2 _ _
 have hk0:Bk W g 42 M:=by rw[hW,hg];exact Bk.new _ _ _
 have HNE:Hid (g≠g5):=lh (by have:=hz.lt;omega);have HZ0:=lh (hz.below hb0 hz.lt);have HG0:=lh hk0;have HKP:Hid (Kp (fun k=>k=g5) w W):=lh (Kp.of_below hb0)
 obtain⟨Z1,hZ1⟩:∃ Y,Y=qd0 Z 1 [uv x.number]:=⟨_,rfl⟩
 rw[← hZ1];have S0:=lh (And.intro hs hZ1);replace hs:Z1.size=39:=by rw[hZ1,qb4,hs]
 clear hZ1
 obtain⟨Z2,hZ2⟩:∃ Y,Y=qd0 Z1 2 [iv x.asker]:=⟨_,rfl⟩
 rw[← hZ2];have S1:=lh (And.intro hs hZ2);replace hs:Z2.size=39:=by rw[hZ2,qb4,hs]
 clear hZ2;clear hb0 hk0 hz hs
 go_enter Tryz.func143,Tryz.ntmps143
 go_upto_region 1 with fail
 rw[← hW,← hg];clear hW hg;refine qc9 12 (fun i=>([[],[],[],[2],[],[4],[0],[6],[3,7],[1],[9],[5,10]]:List (List Nat)).getD i []) [8,11] (fun i=>([0,1,0,0,1,1,0,0,0,1,1,0]:List Nat).getD i 0) (fun zz=>([pq g5 0,pq g5 0,pq g 1,uv x.number,pq g 2,iv x.asker,pq g5 0,pq g5 1,bf,pq g5 0,pq g5 2,bf]:List Value).getD zz (bf)) (KS g g5 M [Z,Z1,Z2] W) rfl (by kernel_rfl) (by rfl) (by kernel_rfl) ?_ ?_ ?_ ?_
 ·exact⟨HG0.o,HZ0.o,(Kp.refl _ W).drew⟩
 ·intro zi hzi hn zo ho k vs w1 hk hlow hS hvs;rcases (show zi=0 ∨ zi=1 ∨ zi=2 ∨ zi=3 ∨ zi=4 ∨ zi=5 ∨ zi=6 ∨ zi=7 ∨ zi=8 ∨ zi=9 ∨ zi=10 ∨ zi=11 by omega) with rfl | rfl | rfl | rfl | rfl | rfl | rfl | rfl | rfl | rfl | rfl | rfl <;> cases ho
  ·clear hS hvs hlow hk hn;change Sem.run _ (execOp (Act.eval (frm _ _ _ [])) _) _=_;simp only[frm];go_simp
  ·clear hS hvs hlow hk hn;change Sem.run _ (execOp (Act.eval (frm _ _ _ [])) _) _=_;simp only[frm];go_simp
  ·clear hS hvs hlow hk hn;change Sem.run _ (execOp (Act.eval (frm _ _ _ [])) _) _=_;simp only[frm];go_simp
  ·have h2:vs 2=pq g 1:=hvs 2 (by decide) (by decide);replace hk:k≤0:=hk;have hbk:=hS.1;have fc0:cl w1 g 1 (uv x.number):=(hbk.cell 1).trans (by rw[HM.o];rfl);clear hbk;clear hS hvs hlow hk hn;change Sem.run _ (execOp (Act.eval (Act.put (frm _ _ _ []) (some 6) (vs 2))) _) _=_;simp only[frm,h2];go_simp
  ·clear hS hvs hlow hk hn;change Sem.run _ (execOp (Act.eval (frm _ _ _ [])) _) _=_;simp only[frm];go_simp
  ·have h4:vs 4=pq g 2:=hvs 4 (by decide) (by decide);replace hk:k≤1:=hk;have hbk:=hS.1;have fc0:cl w1 g 2 (iv x.asker):=(hbk.cell 2).trans (by rw[HM.o];rfl);clear hbk;clear hS hvs hlow hk hn;change Sem.run _ (execOp (Act.eval (Act.put (frm _ _ _ []) (some 8) (vs 4))) _) _=_;simp only[frm,h4];go_simp
  ·have h0:vs 0=pq g5 0:=hvs 0 (by decide) (by decide);clear hS hvs hlow hk hn;change Sem.run _ (execOp (Act.eval (Act.put (frm _ _ _ []) (some 4) (vs 0))) _) _=_;simp only[frm,h0];go_simp
  ·have h6:vs 6=pq g5 0:=hvs 6 (by decide) (by decide);clear hS hvs hlow hk hn;change Sem.run _ (execOp (Act.eval (Act.put (frm _ _ _ []) (some 10) (vs 6))) _) _=_;simp only[frm,h6];go_simp
  ·exact absurd (by decide) hn
  ·have h1:vs 1=pq g5 0:=hvs 1 (by decide) (by decide);clear hS hvs hlow hk hn;change Sem.run _ (execOp (Act.eval (Act.put (frm _ _ _ []) (some 5) (vs 1))) _) _=_;simp only[frm,h1];go_simp
  ·have h9:vs 9=pq g5 0:=hvs 9 (by decide) (by decide);clear hS hvs hlow hk hn;change Sem.run _ (execOp (Act.eval (Act.put (frm _ _ _ []) (some 12) (vs 9))) _) _=_;simp only[frm,h9];go_simp
  ·exact absurd (by decide) hn
 ·intro p hp o ho vs w1 hS hvs;rcases (show p=0 ∨ p=1 by change p < 2 at hp;omega) with rfl | rfl <;> cases ho
  ·replace hS:Bk w1 g 42 M∧Bk w1 g5 42 Z∧Kp (fun k=>k=g5) W w1:=hS;have h3:vs 3=uv x.number:=hvs 3 (by decide) (by decide);have h7:vs 7=pq g5 1:=hvs 7 (by decide) (by decide)
   show Made _ (fun v w2=>Bk w2 g 42 M∧Bk w2 g5 42 Z1∧Kp (fun k=>k=g5) W w2) _
   change Made _ _ (Sem.run _ (execOp (Act.eval (Act.put (Act.put (frm _ _ _ []) (some 11) (vs 7)) (some 7) (vs 3))) _) _);have HS:=lh hS
   obtain⟨u0,hu0⟩:∃ u,w1.cell? ⟨g5,1,none⟩=some u:=⟨_,(hS.2.1.cell 1).trans (Array.getElem?_eq_getElem (by rw[S0.o.1];decide))⟩
   have e0:∀ j,w1.frozen? ⟨g5,j,none⟩=false:=fun j=>hS.2.1.free j;clear hS hvs;simp only[frm,h3,h7];go_simp;refine qa7 ⟨fz_keep2_1 HS.o.1 HNE.o _,?_,HS.o.2.2.trans (kz_keep2_1 _) (fun _ _ h=>h)⟩;rw[S0.o.2];exact bz_keep2_1 HS.o.2.1 _
  ·replace hS:Bk w1 g 42 M∧Bk w1 g5 42 Z1∧Kp (fun k=>k=g5) W w1:=hS;have h5:vs 5=iv x.asker:=hvs 5 (by decide) (by decide);have h10:vs 10=pq g5 2:=hvs 10 (by decide) (by decide)
   show Made _ (fun v w2=>Bk w2 g 42 M∧Bk w2 g5 42 Z2∧Kp (fun k=>k=g5) W w2) _
   change Made _ _ (Sem.run _ (execOp (Act.eval (Act.put (Act.put (frm _ _ _ []) (some 13) (vs 10)) (some 9) (vs 5))) _) _);have HS:=lh hS
   obtain⟨u0,hu0⟩:∃ u,w1.cell? ⟨g5,2,none⟩=some u:=⟨_,(hS.2.1.cell 2).trans (Array.getElem?_eq_getElem (by rw[S1.o.1];decide))⟩
   have e0:∀ j,w1.frozen? ⟨g5,j,none⟩=false:=fun j=>hS.2.1.free j;clear hS hvs;simp only[frm,h5,h10];go_simp;refine qa7 ⟨fz_keep2_2 HS.o.1 HNE.o _,?_,HS.o.2.2.trans (kz_keep2_2 _) (fun _ _ h=>h)⟩;rw[S1.o.2];exact bz_keep2_2 HS.o.2.1 _
 ·intro vs w5 hS hvs;replace hS:Bk w5 g 42 M∧Bk w5 g5 42 Z2∧Kp (fun k=>k=g5) W w5:=hS;change wpList _ _ _ [] (Act.put (Act.put (Act.put (Act.put (Act.put (Act.put (Act.put (Act.put (Act.put (Act.put (Act.put (Act.put (frm _ _ _ []) none (vs 11)) (some 13) (vs 10)) (some 12) (vs 9)) none (vs 8)) (some 11) (vs 7)) (some 10) (vs 6)) (some 9) (vs 5)) (some 8) (vs 4)) (some 7) (vs 3)) (some 6) (vs 2)) (some 5) (vs 1)) (some 4) (vs 0)) _;simp only[frm];clear hvs;generalize vs 0=z0;generalize vs 1=z1;generalize vs 2=z2;generalize vs 3=z3;generalize vs 4=z4;generalize vs 5=z5;generalize vs 6=z6;generalize vs 7=z7;generalize vs 8=z8;generalize vs 9=z9;generalize vs 10=z10;generalize vs 11=z11;have HS:=lh hS;clear hS
  go_wp2_with fail
  go_end0
  exact⟨rfl,HS.o.2.1,HKP.o.trans HS.o.2.2 (fun _ _ h=>h)⟩
theorem bz_keep0_1 {w:World} {g:Nat} {t:TypeId} {Z:Array Value} (h:Bk w g t Z) (v0:Value):Bk ((w).setCell ⟨g,1,none⟩ v0) g t (qd0 Z 1 [v0]):=(h.set 1 v0)
theorem fz_keep0_1 {w:World} {g k:Nat} {t:TypeId} {Z:Array Value} (h:Bk w k t Z) (hn:k≠g) (v0:Value):Bk ((w).setCell ⟨g,1,none⟩ v0) k t Z:=(h.far (p:=⟨g,1,none⟩) hn v0)
theorem kz_keep0_1 {w:World} {g:Nat} (v0:Value):Kp (fun k=>k=g) w ((w).setCell ⟨g,1,none⟩ v0):=(Kp.refl _ _).trans (Kp.setCell (S:=fun k=>k=g) _ ⟨g,1,none⟩ v0 rfl) (fun _ _ h=>h)
theorem bz_keep0_5 {w:World} {g:Nat} {t:TypeId} {Z:Array Value} (h:Bk w g t Z) (v0 v1 v2 v3:Value):Bk (((((w).setCell ⟨g,12,none⟩ v0).setCell ⟨g,13,none⟩ v1).setCell ⟨g,14,none⟩ v2).setCell ⟨g,15,none⟩ v3) g t (qd0 Z 12 [v0,v1,v2,v3]):=((((h.set 12 v0).set 13 v1).set 14 v2).set 15 v3)
theorem fz_keep0_5 {w:World} {g k:Nat} {t:TypeId} {Z:Array Value} (h:Bk w k t Z) (hn:k≠g) (v0 v1 v2 v3:Value):Bk (((((w).setCell ⟨g,12,none⟩ v0).setCell ⟨g,13,none⟩ v1).setCell ⟨g,14,none⟩ v2).setCell ⟨g,15,none⟩ v3) k t Z:=((((h.far (p:=⟨g,12,none⟩) hn v0).far (p:=⟨g,13,none⟩) hn v1).far (p:=⟨g,14,none⟩) hn v2).far (p:=⟨g,15,none⟩) hn v3)
theorem kz_keep0_5 {w:World} {g:Nat} (v0 v1 v2 v3:Value):Kp (fun k=>k=g) w (((((w).setCell ⟨g,12,none⟩ v0).setCell ⟨g,13,none⟩ v1).setCell ⟨g,14,none⟩ v2).setCell ⟨g,15,none⟩ v3):=((((Kp.refl _ _).trans (Kp.setCell (S:=fun k=>k=g) _ ⟨g,12,none⟩ v0 rfl) (fun _ _ h=>h)).trans (Kp.setCell (S:=fun k=>k=g) _ ⟨g,13,none⟩ v1 rfl) (fun _ _ h=>h)).trans (Kp.setCell (S:=fun k=>k=g) _ ⟨g,14,none⟩ v2 rfl) (fun _ _ h=>h)).trans (Kp.setCell (S:=fun k=>k=g) _ ⟨g,15,none⟩ v3 rfl) (fun _ _ h=>h)
theorem keep0 {w:World} (x:Ms) {A1 A2 A3 A4 A5 A6 A7 A8:Option Addr} {c1 c2 c3 c4 c5 c6 c7 c8:Nat} {M Z:Array Value} (hM:M=(mC x A1 A2 A3 A4 A5 A6 A7 A8 c1 c2 c3 c4 c5 c6 c7 c8)) {g5:Nat} (hz:Bk w g5 42 Z) (hs:Z.size=39):Calls Tryz.prog 72 #[pq g5 0,.agg M] w (qq5 g5 (qd0 (qd0 Z 1 [uv x.number]) 12 [iv x.letter.idm,iv x.letter.ids,.string x.letter.meth,.slice A1 x.letter.args.length c1]) w):=by
 have HM:=lh hM;clear hM
 obtain⟨W,hW⟩:∃ W,W=w.alloc (.cells M 42):=⟨_,rfl⟩
 obtain⟨g,hg⟩:∃ g,g=w.heap.size:=⟨_,rfl⟩
 have hb0:bw w W:=by rw[hW];exact qa2 _ _
 have hk0:Bk W g 42 M:=by rw[hW,hg];exact Bk.new _ _ _
 have HNE:Hid (g≠g5):=lh (by have:=hz.lt;omega);have HZ0:=lh (hz.below hb0 hz.lt);have HG0:=lh hk0;have HKP:Hid (Kp (fun k=>k=g5) w W):=lh (Kp.of_below hb0)
 obtain⟨Z1,hZ1⟩:∃ Y,Y=qd0 Z 1 [uv x.number]:=⟨_,rfl⟩
 rw[← hZ1];have S0:=lh (And.intro hs hZ1);replace hs:Z1.size=39:=by rw[hZ1,qb4,hs]
 clear hZ1
 obtain⟨Z2,hZ2⟩:∃ Y,Y=qd0 Z1 12 [iv x.letter.idm,iv x.letter.ids,.string x.letter.meth,.slice A1 x.letter.args.length c1]:=⟨_,rfl⟩
 rw[← hZ2];have S1:=lh (And.intro hs hZ2);replace hs:Z2.size=39:=by rw[hZ2,qb4,hs]
 clear hZ2;clear hb0 hk0 hz hs
 go_enter Tryz.func72,Tryz.ntmps72
 go_upto_region 1 with fail
 rw[← hW,← hg];clear hW hg;refine qc9 12 (fun i=>([[],[],[],[2],[],[4],[0],[6],[3,7],[1],[9],[5,10]]:List (List Nat)).getD i []) [8,11] (fun i=>([0,1,0,0,1,1,0,0,0,1,1,0]:List Nat).getD i 0) (fun zz=>([pq g5 0,pq g5 0,pq g 1,uv x.number,pq g 12,.agg #[iv x.letter.idm,iv x.letter.ids,.string x.letter.meth,.slice A1 x.letter.args.length c1],pq g5 0,pq g5 1,bf,pq g5 0,pq g5 12,bf]:List Value).getD zz (bf)) (KS g g5 M [Z,Z1,Z2] W) rfl (by kernel_rfl) (by rfl) (by kernel_rfl) ?_ ?_ ?_ ?_
 ·exact⟨HG0.o,HZ0.o,(Kp.refl _ W).drew⟩
 ·intro zi hzi hn zo ho k vs w1 hk hlow hS hvs;rcases (show zi=0 ∨ zi=1 ∨ zi=2 ∨ zi=3 ∨ zi=4 ∨ zi=5 ∨ zi=6 ∨ zi=7 ∨ zi=8 ∨ zi=9 ∨ zi=10 ∨ zi=11 by omega) with rfl | rfl | rfl | rfl | rfl | rfl | rfl | rfl | rfl | rfl | rfl | rfl <;> cases ho
  ·clear hS hvs hlow hk hn;change Sem.run _ (execOp (Act.eval (frm _ _ _ [])) _) _=_;simp only[frm];go_simp
  ·clear hS hvs hlow hk hn;change Sem.run _ (execOp (Act.eval (frm _ _ _ [])) _) _=_;simp only[frm];go_simp
  ·clear hS hvs hlow hk hn;change Sem.run _ (execOp (Act.eval (frm _ _ _ [])) _) _=_;simp only[frm];go_simp
  ·have h2:vs 2=pq g 1:=hvs 2 (by decide) (by decide);replace hk:k≤0:=hk;have hbk:=hS.1;have fc0:cl w1 g 1 (uv x.number):=(hbk.cell 1).trans (by rw[HM.o];rfl);clear hbk;clear hS hvs hlow hk hn;change Sem.run _ (execOp (Act.eval (Act.put (frm _ _ _ []) (some 6) (vs 2))) _) _=_;simp only[frm,h2];go_simp
  ·clear hS hvs hlow hk hn;change Sem.run _ (execOp (Act.eval (frm _ _ _ [])) _) _=_;simp only[frm];go_simp
  ·have h4:vs 4=pq g 12:=hvs 4 (by decide) (by decide);replace hk:k≤1:=hk;have hbk:=hS.1;have fc0:cl w1 g 12 (iv x.letter.idm):=(hbk.cell 12).trans (by rw[HM.o];rfl);have fc1:cl w1 g 13 (iv x.letter.ids):=(hbk.cell 13).trans (by rw[HM.o];rfl);have fc2:cl w1 g 14 (.string x.letter.meth):=(hbk.cell 14).trans (by rw[HM.o];rfl);have fc3:cl w1 g 15 (.slice A1 x.letter.args.length c1):=(hbk.cell 15).trans (by rw[HM.o];rfl);clear hbk;clear hS hvs hlow hk hn;change Sem.run _ (execOp (Act.eval (Act.put (frm _ _ _ []) (some 8) (vs 4))) _) _=_;simp only[frm,h4];go_simp
  ·have h0:vs 0=pq g5 0:=hvs 0 (by decide) (by decide);clear hS hvs hlow hk hn;change Sem.run _ (execOp (Act.eval (Act.put (frm _ _ _ []) (some 4) (vs 0))) _) _=_;simp only[frm,h0];go_simp
  ·have h6:vs 6=pq g5 0:=hvs 6 (by decide) (by decide);clear hS hvs hlow hk hn;change Sem.run _ (execOp (Act.eval (Act.put (frm _ _ _ []) (some 10) (vs 6))) _) _=_;simp only[frm,h6];go_simp
  ·exact absurd (by decide) hn
  ·have h1:vs 1=pq g5 0:=hvs 1 (by decide) (by decide);clear hS hvs hlow hk hn;change Sem.run _ (execOp (Act.eval (Act.put (frm _ _ _ []) (some 5) (vs 1))) _) _=_;simp only[frm,h1];go_simp
  ·have h9:vs 9=pq g5 0:=hvs 9 (by decide) (by decide);clear hS hvs hlow hk hn;change Sem.run _ (execOp (Act.eval (Act.put (frm _ _ _ []) (some 12) (vs 9))) _) _=_;simp only[frm,h9];go_simp
  ·exact absurd (by decide) hn
 ·intro p hp o ho vs w1 hS hvs;rcases (show p=0 ∨ p=1 by change p < 2 at hp;omega) with rfl | rfl <;> cases ho
  ·replace hS:Bk w1 g 42 M∧Bk w1 g5 42 Z∧Kp (fun k=>k=g5) W w1:=hS;have h3:vs 3=uv x.number:=hvs 3 (by decide) (by decide);have h7:vs 7=pq g5 1:=hvs 7 (by decide) (by decide)
   show Made _ (fun v w2=>Bk w2 g 42 M∧Bk w2 g5 42 Z1∧Kp (fun k=>k=g5) W w2) _
   change Made _ _ (Sem.run _ (execOp (Act.eval (Act.put (Act.put (frm _ _ _ []) (some 11) (vs 7)) (some 7) (vs 3))) _) _);have HS:=lh hS
   obtain⟨u0,hu0⟩:∃ u,w1.cell? ⟨g5,1,none⟩=some u:=⟨_,(hS.2.1.cell 1).trans (Array.getElem?_eq_getElem (by rw[S0.o.1];decide))⟩
   have e0:∀ j,w1.frozen? ⟨g5,j,none⟩=false:=fun j=>hS.2.1.free j;clear hS hvs;simp only[frm,h3,h7];go_simp;refine qa7 ⟨fz_keep0_1 HS.o.1 HNE.o _,?_,HS.o.2.2.trans (kz_keep0_1 _) (fun _ _ h=>h)⟩;rw[S0.o.2];exact bz_keep0_1 HS.o.2.1 _
  ·replace hS:Bk w1 g 42 M∧Bk w1 g5 42 Z1∧Kp (fun k=>k=g5) W w1:=hS;have h5:vs 5=.agg #[iv x.letter.idm,iv x.letter.ids,.string x.letter.meth,.slice A1 x.letter.args.length c1]:=hvs 5 (by decide) (by decide);have h10:vs 10=pq g5 12:=hvs 10 (by decide) (by decide)
   show Made _ (fun v w2=>Bk w2 g 42 M∧Bk w2 g5 42 Z2∧Kp (fun k=>k=g5) W w2) _
   change Made _ _ (Sem.run _ (execOp (Act.eval (Act.put (Act.put (frm _ _ _ []) (some 13) (vs 10)) (some 9) (vs 5))) _) _);have HS:=lh hS
   obtain⟨u0,hu0⟩:∃ u,w1.cell? ⟨g5,12,none⟩=some u:=⟨_,(hS.2.1.cell 12).trans (Array.getElem?_eq_getElem (by rw[S1.o.1];decide))⟩
   obtain⟨u1,hu1⟩:∃ u,w1.cell? ⟨g5,13,none⟩=some u:=⟨_,(hS.2.1.cell 13).trans (Array.getElem?_eq_getElem (by rw[S1.o.1];decide))⟩
   obtain⟨u2,hu2⟩:∃ u,w1.cell? ⟨g5,14,none⟩=some u:=⟨_,(hS.2.1.cell 14).trans (Array.getElem?_eq_getElem (by rw[S1.o.1];decide))⟩
   obtain⟨u3,hu3⟩:∃ u,w1.cell? ⟨g5,15,none⟩=some u:=⟨_,(hS.2.1.cell 15).trans (Array.getElem?_eq_getElem (by rw[S1.o.1];decide))⟩
   have e0:∀ j,w1.frozen? ⟨g5,j,none⟩=false:=fun j=>hS.2.1.free j;clear hS hvs;simp only[frm,h5,h10];go_simp;refine qa7 ⟨fz_keep0_5 HS.o.1 HNE.o _ _ _ _,?_,HS.o.2.2.trans (kz_keep0_5 _ _ _ _) (fun _ _ h=>h)⟩;rw[S1.o.2];exact bz_keep0_5 HS.o.2.1 _ _ _ _
 ·intro vs w5 hS hvs;replace hS:Bk w5 g 42 M∧Bk w5 g5 42 Z2∧Kp (fun k=>k=g5) W w5:=hS;change wpList _ _ _ [] (Act.put (Act.put (Act.put (Act.put (Act.put (Act.put (Act.put (Act.put (Act.put (Act.put (Act.put (Act.put (frm _ _ _ []) none (vs 11)) (some 13) (vs 10)) (some 12) (vs 9)) none (vs 8)) (some 11) (vs 7)) (some 10) (vs 6)) (some 9) (vs 5)) (some 8) (vs 4)) (some 7) (vs 3)) (some 6) (vs 2)) (some 5) (vs 1)) (some 4) (vs 0)) _;simp only[frm];clear hvs;generalize vs 0=z0;generalize vs 1=z1;generalize vs 2=z2;generalize vs 3=z3;generalize vs 4=z4;generalize vs 5=z5;generalize vs 6=z6;generalize vs 7=z7;generalize vs 8=z8;generalize vs 9=z9;generalize vs 10=z10;generalize vs 11=z11;have HS:=lh hS;clear hS
  go_wp2_with fail
  go_end0
  exact⟨rfl,HS.o.2.1,HKP.o.trans HS.o.2.2 (fun _ _ h=>h)⟩
theorem bz_keep8_7 {w:World} {g:Nat} {t:TypeId} {Z:Array Value} (h:Bk w g t Z) (v0 v1:Value):Bk (((w).setCell ⟨g,24,none⟩ v0).setCell ⟨g,25,none⟩ v1) g t (qd0 Z 24 [v0,v1]):=((h.set 24 v0).set 25 v1)
theorem fz_keep8_7 {w:World} {g k:Nat} {t:TypeId} {Z:Array Value} (h:Bk w k t Z) (hn:k≠g) (v0 v1:Value):Bk (((w).setCell ⟨g,24,none⟩ v0).setCell ⟨g,25,none⟩ v1) k t Z:=((h.far (p:=⟨g,24,none⟩) hn v0).far (p:=⟨g,25,none⟩) hn v1)
theorem kz_keep8_7 {w:World} {g:Nat} (v0 v1:Value):Kp (fun k=>k=g) w (((w).setCell ⟨g,24,none⟩ v0).setCell ⟨g,25,none⟩ v1):=((Kp.refl _ _).trans (Kp.setCell (S:=fun k=>k=g) _ ⟨g,24,none⟩ v0 rfl) (fun _ _ h=>h)).trans (Kp.setCell (S:=fun k=>k=g) _ ⟨g,25,none⟩ v1 rfl) (fun _ _ h=>h)
theorem bz_keep8_1 {w:World} {g:Nat} {t:TypeId} {Z:Array Value} (h:Bk w g t Z) (v0:Value):Bk ((w).setCell ⟨g,1,none⟩ v0) g t (qd0 Z 1 [v0]):=(h.set 1 v0)
theorem fz_keep8_1 {w:World} {g k:Nat} {t:TypeId} {Z:Array Value} (h:Bk w k t Z) (hn:k≠g) (v0:Value):Bk ((w).setCell ⟨g,1,none⟩ v0) k t Z:=(h.far (p:=⟨g,1,none⟩) hn v0)
theorem kz_keep8_1 {w:World} {g:Nat} (v0:Value):Kp (fun k=>k=g) w ((w).setCell ⟨g,1,none⟩ v0):=(Kp.refl _ _).trans (Kp.setCell (S:=fun k=>k=g) _ ⟨g,1,none⟩ v0 rfl) (fun _ _ h=>h)
theorem bz_keep8_2 {w:World} {g:Nat} {t:TypeId} {Z:Array Value} (h:Bk w g t Z) (v0:Value):Bk ((w).setCell ⟨g,2,none⟩ v0) g t (qd0 Z 2 [v0]):=(h.set 2 v0)
theorem fz_keep8_2 {w:World} {g k:Nat} {t:TypeId} {Z:Array Value} (h:Bk w k t Z) (hn:k≠g) (v0:Value):Bk ((w).setCell ⟨g,2,none⟩ v0) k t Z:=(h.far (p:=⟨g,2,none⟩) hn v0)
theorem kz_keep8_2 {w:World} {g:Nat} (v0:Value):Kp (fun k=>k=g) w ((w).setCell ⟨g,2,none⟩ v0):=(Kp.refl _ _).trans (Kp.setCell (S:=fun k=>k=g) _ ⟨g,2,none⟩ v0 rfl) (fun _ _ h=>h)
theorem keep8 {w:World} (x:Ms) {A1 A2 A3 A4 A5 A6 A7 A8:Option Addr} {c1 c2 c3 c4 c5 c6 c7 c8:Nat} {M Z:Array Value} (hM:M=(mC x A1 A2 A3 A4 A5 A6 A7 A8 c1 c2 c3 c4 c5 c6 c7 c8)) {g5:Nat} (hz:Bk w g5 42 Z) (hs:Z.size=39):Calls Tryz.prog 87 #[pq g5 0,.agg M] w (qq5 g5 (qd0 (qd0 (qd0 Z 24 [iv x.tm,iv x.ts]) 1 [uv x.number]) 2 [iv x.asker]) w):=by
 have HM:=lh hM;clear hM
 obtain⟨W,hW⟩:∃ W,W=w.alloc (.cells M 42):=⟨_,rfl⟩
 obtain⟨g,hg⟩:∃ g,g=w.heap.size:=⟨_,rfl⟩
 have hb0:bw w W:=by rw[hW];exact qa2 _ _
 have hk0:Bk W g 42 M:=by rw[hW,hg];exact Bk.new _ _ _
 have HNE:Hid (g≠g5):=lh (by have:=hz.lt;omega);have HZ0:=lh (hz.below hb0 hz.lt);have HG0:=lh hk0;have HKP:Hid (Kp (fun k=>k=g5) w W):=lh (Kp.of_below hb0)
 obtain⟨Z1,hZ1⟩:∃ Y,Y=qd0 Z 24 [iv x.tm,iv x.ts]:=⟨_,rfl⟩
 rw[← hZ1];have S0:=lh (And.intro hs hZ1);replace hs:Z1.size=39:=by rw[hZ1,qb4,hs]
 clear hZ1
 obtain⟨Z2,hZ2⟩:∃ Y,Y=qd0 Z1 1 [uv x.number]:=⟨_,rfl⟩
 rw[← hZ2];have S1:=lh (And.intro hs hZ2);replace hs:Z2.size=39:=by rw[hZ2,qb4,hs]
 clear hZ2
 obtain⟨Z3,hZ3⟩:∃ Y,Y=qd0 Z2 2 [iv x.asker]:=⟨_,rfl⟩
 rw[← hZ3];have S2:=lh (And.intro hs hZ3);replace hs:Z3.size=39:=by rw[hZ3,qb4,hs]
 clear hZ3;clear hb0 hk0 hz hs
 go_enter Tryz.func87,Tryz.ntmps87
 go_upto_region 1 with fail
 rw[← hW,← hg];clear hW hg;refine qc9 18 (fun i=>([[],[],[],[],[3],[],[5],[],[7],[0],[9],[4,10],[1],[12],[6,13],[2],[15],[8,16]]:List (List Nat)).getD i []) [11,14,17] (fun i=>([0,1,2,0,0,1,1,2,2,0,0,0,1,1,0,2,2,0]:List Nat).getD i 0) (fun zz=>([pq g5 0,pq g5 0,pq g5 0,pq g 24,.agg #[iv x.tm,iv x.ts],pq g 1,uv x.number,pq g 2,iv x.asker,pq g5 0,pq g5 24,bf,pq g5 0,pq g5 1,bf,pq g5 0,pq g5 2,bf]:List Value).getD zz (bf)) (KS g g5 M [Z,Z1,Z2,Z3] W) rfl (by kernel_rfl) (by rfl) (by kernel_rfl) ?_ ?_ ?_ ?_
 ·exact⟨HG0.o,HZ0.o,(Kp.refl _ W).drew⟩
 ·intro zi hzi hn zo ho k vs w1 hk hlow hS hvs;rcases (show zi=0 ∨ zi=1 ∨ zi=2 ∨ zi=3 ∨ zi=4 ∨ zi=5 ∨ zi=6 ∨ zi=7 ∨ zi=8 ∨ zi=9 ∨ zi=10 ∨ zi=11 ∨ zi=12 ∨ zi=13 ∨ zi=14 ∨ zi=15 ∨ zi=16 ∨ zi=17 by omega) with rfl | rfl | rfl | rfl | rfl | rfl | rfl | rfl | rfl | rfl | rfl | rfl | rfl | rfl | rfl | rfl | rfl | rfl <;> cases ho
  ·clear hS hvs hlow hk hn;change Sem.run _ (execOp (Act.eval (frm _ _ _ [])) _) _=_;simp only[frm];go_simp
  ·clear hS hvs hlow hk hn;change Sem.run _ (execOp (Act.eval (frm _ _ _ [])) _) _=_;simp only[frm];go_simp
  ·clear hS hvs hlow hk hn;change Sem.run _ (execOp (Act.eval (frm _ _ _ [])) _) _=_;simp only[frm];go_simp
  ·clear hS hvs hlow hk hn;change Sem.run _ (execOp (Act.eval (frm _ _ _ [])) _) _=_;simp only[frm];go_simp
  ·have h3:vs 3=pq g 24:=hvs 3 (by decide) (by decide);replace hk:k≤0:=hk;have hbk:=hS.1;have fc0:cl w1 g 24 (iv x.tm):=(hbk.cell 24).trans (by rw[HM.o];rfl);have fc1:cl w1 g 25 (iv x.ts):=(hbk.cell 25).trans (by rw[HM.o];rfl);clear hbk;clear hS hvs hlow hk hn;change Sem.run _ (execOp (Act.eval (Act.put (frm _ _ _ []) (some 7) (vs 3))) _) _=_;simp only[frm,h3];go_simp
  ·clear hS hvs hlow hk hn;change Sem.run _ (execOp (Act.eval (frm _ _ _ [])) _) _=_;simp only[frm];go_simp
  ·have h5:vs 5=pq g 1:=hvs 5 (by decide) (by decide);replace hk:k≤1:=hk;have hbk:=hS.1;have fc0:cl w1 g 1 (uv x.number):=(hbk.cell 1).trans (by rw[HM.o];rfl);clear hbk;clear hS hvs hlow hk hn;change Sem.run _ (execOp (Act.eval (Act.put (frm _ _ _ []) (some 9) (vs 5))) _) _=_;simp only[frm,h5];go_simp
  ·clear hS hvs hlow hk hn;change Sem.run _ (execOp (Act.eval (frm _ _ _ [])) _) _=_;simp only[frm];go_simp
  ·have h7:vs 7=pq g 2:=hvs 7 (by decide) (by decide);replace hk:k≤2:=hk;have hbk:=hS.1;have fc0:cl w1 g 2 (iv x.asker):=(hbk.cell 2).trans (by rw[HM.o];rfl);clear hbk;clear hS hvs hlow hk hn;change Sem.run _ (execOp (Act.eval (Act.put (frm _ _ _ []) (some 11) (vs 7))) _) _=_;simp only[frm,h7];go_simp
  ·have h0:vs 0=pq g5 0:=hvs 0 (by decide) (by decide);clear hS hvs hlow hk hn;change Sem.run _ (execOp (Act.eval (Act.put (frm _ _ _ []) (some 4) (vs 0))) _) _=_;simp only[frm,h0];go_simp
  ·have h9:vs 9=pq g5 0:=hvs 9 (by decide) (by decide);clear hS hvs hlow hk hn;change Sem.run _ (execOp (Act.eval (Act.put (frm _ _ _ []) (some 13) (vs 9))) _) _=_;simp only[frm,h9];go_simp
  ·exact absurd (by decide) hn
  ·have h1:vs 1=pq g5 0:=hvs 1 (by decide) (by decide);clear hS hvs hlow hk hn;change Sem.run _ (execOp (Act.eval (Act.put (frm _ _ _ []) (some 5) (vs 1))) _) _=_;simp only[frm,h1];go_simp
  ·have h12:vs 12=pq g5 0:=hvs 12 (by decide) (by decide);clear hS hvs hlow hk hn;change Sem.run _ (execOp (Act.eval (Act.put (frm _ _ _ []) (some 15) (vs 12))) _) _=_;simp only[frm,h12];go_simp
  ·exact absurd (by decide) hn
  ·have h2:vs 2=pq g5 0:=hvs 2 (by decide) (by decide);clear hS hvs hlow hk hn;change Sem.run _ (execOp (Act.eval (Act.put (frm _ _ _ []) (some 6) (vs 2))) _) _=_;simp only[frm,h2];go_simp
  ·have h15:vs 15=pq g5 0:=hvs 15 (by decide) (by decide);clear hS hvs hlow hk hn;change Sem.run _ (execOp (Act.eval (Act.put (frm _ _ _ []) (some 17) (vs 15))) _) _=_;simp only[frm,h15];go_simp
  ·exact absurd (by decide) hn
 ·intro p hp o ho vs w1 hS hvs;rcases (show p=0 ∨ p=1 ∨ p=2 by change p < 3 at hp;omega) with rfl | rfl | rfl <;> cases ho
  ·replace hS:Bk w1 g 42 M∧Bk w1 g5 42 Z∧Kp (fun k=>k=g5) W w1:=hS;have h4:vs 4=.agg #[iv x.tm,iv x.ts]:=hvs 4 (by decide) (by decide);have h10:vs 10=pq g5 24:=hvs 10 (by decide) (by decide)
   show Made _ (fun v w2=>Bk w2 g 42 M∧Bk w2 g5 42 Z1∧Kp (fun k=>k=g5) W w2) _
   change Made _ _ (Sem.run _ (execOp (Act.eval (Act.put (Act.put (frm _ _ _ []) (some 14) (vs 10)) (some 8) (vs 4))) _) _);have HS:=lh hS
   obtain⟨u0,hu0⟩:∃ u,w1.cell? ⟨g5,24,none⟩=some u:=⟨_,(hS.2.1.cell 24).trans (Array.getElem?_eq_getElem (by rw[S0.o.1];decide))⟩
   obtain⟨u1,hu1⟩:∃ u,w1.cell? ⟨g5,25,none⟩=some u:=⟨_,(hS.2.1.cell 25).trans (Array.getElem?_eq_getElem (by rw[S0.o.1];decide))⟩
   have e0:∀ j,w1.frozen? ⟨g5,j,none⟩=false:=fun j=>hS.2.1.free j;clear hS hvs;simp only[frm,h4,h10];go_simp;refine qa7 ⟨fz_keep8_7 HS.o.1 HNE.o _ _,?_,HS.o.2.2.trans (kz_keep8_7 _ _) (fun _ _ h=>h)⟩;rw[S0.o.2];exact bz_keep8_7 HS.o.2.1 _ _
  ·replace hS:Bk w1 g 42 M∧Bk w1 g5 42 Z1∧Kp (fun k=>k=g5) W w1:=hS;have h6:vs 6=uv x.number:=hvs 6 (by decide) (by decide);have h13:vs 13=pq g5 1:=hvs 13 (by decide) (by decide)
   show Made _ (fun v w2=>Bk w2 g 42 M∧Bk w2 g5 42 Z2∧Kp (fun k=>k=g5) W w2) _
   change Made _ _ (Sem.run _ (execOp (Act.eval (Act.put (Act.put (frm _ _ _ []) (some 16) (vs 13)) (some 10) (vs 6))) _) _);have HS:=lh hS
   obtain⟨u0,hu0⟩:∃ u,w1.cell? ⟨g5,1,none⟩=some u:=⟨_,(hS.2.1.cell 1).trans (Array.getElem?_eq_getElem (by rw[S1.o.1];decide))⟩
   have e0:∀ j,w1.frozen? ⟨g5,j,none⟩=false:=fun j=>hS.2.1.free j;clear hS hvs;simp only[frm,h6,h13];go_simp;refine qa7 ⟨fz_keep8_1 HS.o.1 HNE.o _,?_,HS.o.2.2.trans (kz_keep8_1 _) (fun _ _ h=>h)⟩;rw[S1.o.2];exact bz_keep8_1 HS.o.2.1 _
  ·replace hS:Bk w1 g 42 M∧Bk w1 g5 42 Z2∧Kp (fun k=>k=g5) W w1:=hS;have h8:vs 8=iv x.asker:=hvs 8 (by decide) (by decide);have h16:vs 16=pq g5 2:=hvs 16 (by decide) (by decide)
   show Made _ (fun v w2=>Bk w2 g 42 M∧Bk w2 g5 42 Z3∧Kp (fun k=>k=g5) W w2) _
   change Made _ _ (Sem.run _ (execOp (Act.eval (Act.put (Act.put (frm _ _ _ []) (some 18) (vs 16)) (some 12) (vs 8))) _) _);have HS:=lh hS
   obtain⟨u0,hu0⟩:∃ u,w1.cell? ⟨g5,2,none⟩=some u:=⟨_,(hS.2.1.cell 2).trans (Array.getElem?_eq_getElem (by rw[S2.o.1];decide))⟩
   have e0:∀ j,w1.frozen? ⟨g5,j,none⟩=false:=fun j=>hS.2.1.free j;clear hS hvs;simp only[frm,h8,h16];go_simp;refine qa7 ⟨fz_keep8_2 HS.o.1 HNE.o _,?_,HS.o.2.2.trans (kz_keep8_2 _) (fun _ _ h=>h)⟩;rw[S2.o.2];exact bz_keep8_2 HS.o.2.1 _
 ·intro vs w5 hS hvs;replace hS:Bk w5 g 42 M∧Bk w5 g5 42 Z3∧Kp (fun k=>k=g5) W w5:=hS;change wpList _ _ _ [] (Act.put (Act.put (Act.put (Act.put (Act.put (Act.put (Act.put (Act.put (Act.put (Act.put (Act.put (Act.put (Act.put (Act.put (Act.put (Act.put (Act.put (Act.put (frm _ _ _ []) none (vs 17)) (some 18) (vs 16)) (some 17) (vs 15)) none (vs 14)) (some 16) (vs 13)) (some 15) (vs 12)) none (vs 11)) (some 14) (vs 10)) (some 13) (vs 9)) (some 12) (vs 8)) (some 11) (vs 7)) (some 10) (vs 6)) (some 9) (vs 5)) (some 8) (vs 4)) (some 7) (vs 3)) (some 6) (vs 2)) (some 5) (vs 1)) (some 4) (vs 0)) _;simp only[frm];clear hvs;generalize vs 0=z0;generalize vs 1=z1;generalize vs 2=z2;generalize vs 3=z3;generalize vs 4=z4;generalize vs 5=z5;generalize vs 6=z6;generalize vs 7=z7;generalize vs 8=z8;generalize vs 9=z9;generalize vs 10=z10;generalize vs 11=z11;generalize vs 12=z12;generalize vs 13=z13;generalize vs 14=z14;generalize vs 15=z15;generalize vs 16=z16;generalize vs 17=z17;have HS:=lh hS;clear hS
  go_wp2_with fail
  go_end0
  exact⟨rfl,HS.o.2.1,HKP.o.trans HS.o.2.2 (fun _ _ h=>h)⟩
theorem bz_keep9_7 {w:World} {g:Nat} {t:TypeId} {Z:Array Value} (h:Bk w g t Z) (v0 v1:Value):Bk (((w).setCell ⟨g,24,none⟩ v0).setCell ⟨g,25,none⟩ v1) g t (qd0 Z 24 [v0,v1]):=((h.set 24 v0).set 25 v1)
theorem fz_keep9_7 {w:World} {g k:Nat} {t:TypeId} {Z:Array Value} (h:Bk w k t Z) (hn:k≠g) (v0 v1:Value):Bk (((w).setCell ⟨g,24,none⟩ v0).setCell ⟨g,25,none⟩ v1) k t Z:=((h.far (p:=⟨g,24,none⟩) hn v0).far (p:=⟨g,25,none⟩) hn v1)
theorem kz_keep9_7 {w:World} {g:Nat} (v0 v1:Value):Kp (fun k=>k=g) w (((w).setCell ⟨g,24,none⟩ v0).setCell ⟨g,25,none⟩ v1):=((Kp.refl _ _).trans (Kp.setCell (S:=fun k=>k=g) _ ⟨g,24,none⟩ v0 rfl) (fun _ _ h=>h)).trans (Kp.setCell (S:=fun k=>k=g) _ ⟨g,25,none⟩ v1 rfl) (fun _ _ h=>h)
theorem bz_keep9_8 {w:World} {g:Nat} {t:TypeId} {Z:Array Value} (h:Bk w g t Z) (v0 v1 v2 v3 v4 v5 v6 v7:Value):Bk (((((((((w).setCell ⟨g,26,none⟩ v0).setCell ⟨g,27,none⟩ v1).setCell ⟨g,28,none⟩ v2).setCell ⟨g,29,none⟩ v3).setCell ⟨g,30,none⟩ v4).setCell ⟨g,31,none⟩ v5).setCell ⟨g,32,none⟩ v6).setCell ⟨g,33,none⟩ v7) g t (qd0 Z 26 [v0,v1,v2,v3,v4,v5,v6,v7]):=((((((((h.set 26 v0).set 27 v1).set 28 v2).set 29 v3).set 30 v4).set 31 v5).set 32 v6).set 33 v7)
theorem fz_keep9_8 {w:World} {g k:Nat} {t:TypeId} {Z:Array Value} (h:Bk w k t Z) (hn:k≠g) (v0 v1 v2 v3 v4 v5 v6 v7:Value):Bk (((((((((w).setCell ⟨g,26,none⟩ v0).setCell ⟨g,27,none⟩ v1).setCell ⟨g,28,none⟩ v2).setCell ⟨g,29,none⟩ v3).setCell ⟨g,30,none⟩ v4).setCell ⟨g,31,none⟩ v5).setCell ⟨g,32,none⟩ v6).setCell ⟨g,33,none⟩ v7) k t Z:=((((((((h.far (p:=⟨g,26,none⟩) hn v0).far (p:=⟨g,27,none⟩) hn v1).far (p:=⟨g,28,none⟩) hn v2).far (p:=⟨g,29,none⟩) hn v3).far (p:=⟨g,30,none⟩) hn v4).far (p:=⟨g,31,none⟩) hn v5).far (p:=⟨g,32,none⟩) hn v6).far (p:=⟨g,33,none⟩) hn v7)
theorem kz_keep9_8 {w:World} {g:Nat} (v0 v1 v2 v3 v4 v5 v6 v7:Value):Kp (fun k=>k=g) w (((((((((w).setCell ⟨g,26,none⟩ v0).setCell ⟨g,27,none⟩ v1).setCell ⟨g,28,none⟩ v2).setCell ⟨g,29,none⟩ v3).setCell ⟨g,30,none⟩ v4).setCell ⟨g,31,none⟩ v5).setCell ⟨g,32,none⟩ v6).setCell ⟨g,33,none⟩ v7):=((((((((Kp.refl _ _).trans (Kp.setCell (S:=fun k=>k=g) _ ⟨g,26,none⟩ v0 rfl) (fun _ _ h=>h)).trans (Kp.setCell (S:=fun k=>k=g) _ ⟨g,27,none⟩ v1 rfl) (fun _ _ h=>h)).trans (Kp.setCell (S:=fun k=>k=g) _ ⟨g,28,none⟩ v2 rfl) (fun _ _ h=>h)).trans (Kp.setCell (S:=fun k=>k=g) _ ⟨g,29,none⟩ v3 rfl) (fun _ _ h=>h)).trans (Kp.setCell (S:=fun k=>k=g) _ ⟨g,30,none⟩ v4 rfl) (fun _ _ h=>h)).trans (Kp.setCell (S:=fun k=>k=g) _ ⟨g,31,none⟩ v5 rfl) (fun _ _ h=>h)).trans (Kp.setCell (S:=fun k=>k=g) _ ⟨g,32,none⟩ v6 rfl) (fun _ _ h=>h)).trans (Kp.setCell (S:=fun k=>k=g) _ ⟨g,33,none⟩ v7 rfl) (fun _ _ h=>h)
theorem keep9 {w:World} (x:Ms) {A1 A2 A3 A4 A5 A6 A7 A8:Option Addr} {c1 c2 c3 c4 c5 c6 c7 c8:Nat} {M Z:Array Value} (hM:M=(mC x A1 A2 A3 A4 A5 A6 A7 A8 c1 c2 c3 c4 c5 c6 c7 c8)) {g5:Nat} (hz:Bk w g5 42 Z) (hs:Z.size=39):Calls Tryz.prog 92 #[pq g5 0,.agg M] w (qq5 g5 (qd0 (qd0 Z 24 [iv x.tm,iv x.ts]) 26 [iv x.answer.machine,iv x.answer.owner,uv x.answer.number,iv x.answer.epoch,.bool x.answer.known,.bool x.answer.rooted,iv x.answer.last,.slice A5 x.answer.inset.length c5]) w):=by
 have HM:=lh hM;clear hM
 obtain⟨W,hW⟩:∃ W,W=w.alloc (.cells M 42):=⟨_,rfl⟩
 obtain⟨g,hg⟩:∃ g,g=w.heap.size:=⟨_,rfl⟩
 have hb0:bw w W:=by rw[hW];exact qa2 _ _
 have hk0:Bk W g 42 M:=by rw[hW,hg];exact Bk.new _ _ _
 have HNE:Hid (g≠g5):=lh (by have:=hz.lt;omega);have HZ0:=lh (hz.below hb0 hz.lt);have HG0:=lh hk0;have HKP:Hid (Kp (fun k=>k=g5) w W):=lh (Kp.of_below hb0)
 obtain⟨Z1,hZ1⟩:∃ Y,Y=qd0 Z 24 [iv x.tm,iv x.ts]:=⟨_,rfl⟩
 rw[← hZ1];have S0:=lh (And.intro hs hZ1);replace hs:Z1.size=39:=by rw[hZ1,qb4,hs]
 clear hZ1
 obtain⟨Z2,hZ2⟩:∃ Y,Y=qd0 Z1 26 [iv x.answer.machine,iv x.answer.owner,uv x.answer.number,iv x.answer.epoch,.bool x.answer.known,.bool x.answer.rooted,iv x.answer.last,.slice A5 x.answer.inset.length c5]:=⟨_,rfl⟩
 rw[← hZ2];have S1:=lh (And.intro hs hZ2);replace hs:Z2.size=39:=by rw[hZ2,qb4,hs]
 clear hZ2;clear hb0 hk0 hz hs
 go_enter Tryz.func92,Tryz.ntmps92
 go_upto_region 1 with fail
 rw[← hW,← hg];clear hW hg;refine qc9 12 (fun i=>([[],[],[],[2],[],[4],[0],[6],[3,7],[1],[9],[5,10]]:List (List Nat)).getD i []) [8,11] (fun i=>([0,1,0,0,1,1,0,0,0,1,1,0]:List Nat).getD i 0) (fun zz=>([pq g5 0,pq g5 0,pq g 24,.agg #[iv x.tm,iv x.ts],pq g 26,.agg #[iv x.answer.machine,iv x.answer.owner,uv x.answer.number,iv x.answer.epoch,.bool x.answer.known,.bool x.answer.rooted,iv x.answer.last,.slice A5 x.answer.inset.length c5],pq g5 0,pq g5 24,bf,pq g5 0,pq g5 26,bf]:List Value).getD zz (bf)) (KS g g5 M [Z,Z1,Z2] W) rfl (by kernel_rfl) (by rfl) (by kernel_rfl) ?_ ?_ ?_ ?_
 ·exact⟨HG0.o,HZ0.o,(Kp.refl _ W).drew⟩
 ·intro zi hzi hn zo ho k vs w1 hk hlow hS hvs;rcases (show zi=0 ∨ zi=1 ∨ zi=2 ∨ zi=3 ∨ zi=4 ∨ zi=5 ∨ zi=6 ∨ zi=7 ∨ zi=8 ∨ zi=9 ∨ zi=10 ∨ zi=11 by omega) with rfl | rfl | rfl | rfl | rfl | rfl | rfl | rfl | rfl | rfl | rfl | rfl <;> cases ho
  ·clear hS hvs hlow hk hn;change Sem.run _ (execOp (Act.eval (frm _ _ _ [])) _) _=_;simp only[frm];go_simp
  ·clear hS hvs hlow hk hn;change Sem.run _ (execOp (Act.eval (frm _ _ _ [])) _) _=_;simp only[frm];go_simp
  ·clear hS hvs hlow hk hn;change Sem.run _ (execOp (Act.eval (frm _ _ _ [])) _) _=_;simp only[frm];go_simp
  ·have h2:vs 2=pq g 24:=hvs 2 (by decide) (by decide);replace hk:k≤0:=hk;have hbk:=hS.1;have fc0:cl w1 g 24 (iv x.tm):=(hbk.cell 24).trans (by rw[HM.o];rfl);have fc1:cl w1 g 25 (iv x.ts):=(hbk.cell 25).trans (by rw[HM.o];rfl);clear hbk;clear hS hvs hlow hk hn;change Sem.run _ (execOp (Act.eval (Act.put (frm _ _ _ []) (some 6) (vs 2))) _) _=_;simp only[frm,h2];go_simp
  ·clear hS hvs hlow hk hn;change Sem.run _ (execOp (Act.eval (frm _ _ _ [])) _) _=_;simp only[frm];go_simp
  ·have h4:vs 4=pq g 26:=hvs 4 (by decide) (by decide);replace hk:k≤1:=hk;have hbk:=hS.1;have fc0:cl w1 g 26 (iv x.answer.machine):=(hbk.cell 26).trans (by rw[HM.o];rfl);have fc1:cl w1 g 27 (iv x.answer.owner):=(hbk.cell 27).trans (by rw[HM.o];rfl);have fc2:cl w1 g 28 (uv x.answer.number):=(hbk.cell 28).trans (by rw[HM.o];rfl);have fc3:cl w1 g 29 (iv x.answer.epoch):=(hbk.cell 29).trans (by rw[HM.o];rfl);have fc4:cl w1 g 30 (.bool x.answer.known):=(hbk.cell 30).trans (by rw[HM.o];rfl);have fc5:cl w1 g 31 (.bool x.answer.rooted):=(hbk.cell 31).trans (by rw[HM.o];rfl);have fc6:cl w1 g 32 (iv x.answer.last):=(hbk.cell 32).trans (by rw[HM.o];rfl);have fc7:cl w1 g 33 (.slice A5 x.answer.inset.length c5):=(hbk.cell 33).trans (by rw[HM.o];rfl);clear hbk;clear hS hvs hlow hk hn;change Sem.run _ (execOp (Act.eval (Act.put (frm _ _ _ []) (some 8) (vs 4))) _) _=_;simp only[frm,h4];go_simp
  ·have h0:vs 0=pq g5 0:=hvs 0 (by decide) (by decide);clear hS hvs hlow hk hn;change Sem.run _ (execOp (Act.eval (Act.put (frm _ _ _ []) (some 4) (vs 0))) _) _=_;simp only[frm,h0];go_simp
  ·have h6:vs 6=pq g5 0:=hvs 6 (by decide) (by decide);clear hS hvs hlow hk hn;change Sem.run _ (execOp (Act.eval (Act.put (frm _ _ _ []) (some 10) (vs 6))) _) _=_;simp only[frm,h6];go_simp
  ·exact absurd (by decide) hn
  ·have h1:vs 1=pq g5 0:=hvs 1 (by decide) (by decide);clear hS hvs hlow hk hn;change Sem.run _ (execOp (Act.eval (Act.put (frm _ _ _ []) (some 5) (vs 1))) _) _=_;simp only[frm,h1];go_simp
  ·have h9:vs 9=pq g5 0:=hvs 9 (by decide) (by decide);clear hS hvs hlow hk hn;change Sem.run _ (execOp (Act.eval (Act.put (frm _ _ _ []) (some 12) (vs 9))) _) _=_;simp only[frm,h9];go_simp
  ·exact absurd (by decide) hn
 ·intro p hp o ho vs w1 hS hvs;rcases (show p=0 ∨ p=1 by change p < 2 at hp;omega) with rfl | rfl <;> cases ho
  ·replace hS:Bk w1 g 42 M∧Bk w1 g5 42 Z∧Kp (fun k=>k=g5) W w1:=hS;have h3:vs 3=.agg #[iv x.tm,iv x.ts]:=hvs 3 (by decide) (by decide);have h7:vs 7=pq g5 24:=hvs 7 (by decide) (by decide)
   show Made _ (fun v w2=>Bk w2 g 42 M∧Bk w2 g5 42 Z1∧Kp (fun k=>k=g5) W w2) _
   change Made _ _ (Sem.run _ (execOp (Act.eval (Act.put (Act.put (frm _ _ _ []) (some 11) (vs 7)) (some 7) (vs 3))) _) _);have HS:=lh hS
   obtain⟨u0,hu0⟩:∃ u,w1.cell? ⟨g5,24,none⟩=some u:=⟨_,(hS.2.1.cell 24).trans (Array.getElem?_eq_getElem (by rw[S0.o.1];decide))⟩
   obtain⟨u1,hu1⟩:∃ u,w1.cell? ⟨g5,25,none⟩=some u:=⟨_,(hS.2.1.cell 25).trans (Array.getElem?_eq_getElem (by rw[S0.o.1];decide))⟩
   have e0:∀ j,w1.frozen? ⟨g5,j,none⟩=false:=fun j=>hS.2.1.free j;clear hS hvs;simp only[frm,h3,h7];go_simp;refine qa7 ⟨fz_keep9_7 HS.o.1 HNE.o _ _,?_,HS.o.2.2.trans (kz_keep9_7 _ _) (fun _ _ h=>h)⟩;rw[S0.o.2];exact bz_keep9_7 HS.o.2.1 _ _
  ·replace hS:Bk w1 g 42 M∧Bk w1 g5 42 Z1∧Kp (fun k=>k=g5) W w1:=hS;have h5:vs 5=.agg #[iv x.answer.machine,iv x.answer.owner,uv x.answer.number,iv x.answer.epoch,.bool x.answer.known,.bool x.answer.rooted,iv x.answer.last,.slice A5 x.answer.inset.length c5]:=hvs 5 (by decide) (by decide);have h10:vs 10=pq g5 26:=hvs 10 (by decide) (by decide)
   show Made _ (fun v w2=>Bk w2 g 42 M∧Bk w2 g5 42 Z2∧Kp (fun k=>k=g5) W w2) _
   change Made _ _ (Sem.run _ (execOp (Act.eval (Act.put (Act.put (frm _ _ _ []) (some 13) (vs 10)) (some 9) (vs 5))) _) _);have HS:=lh hS
   obtain⟨u0,hu0⟩:∃ u,w1.cell? ⟨g5,26,none⟩=some u:=⟨_,(hS.2.1.cell 26).trans (Array.getElem?_eq_getElem (by rw[S1.o.1];decide))⟩
   obtain⟨u1,hu1⟩:∃ u,w1.cell? ⟨g5,27,none⟩=some u:=⟨_,(hS.2.1.cell 27).trans (Array.getElem?_eq_getElem (by rw[S1.o.1];decide))⟩
   obtain⟨u2,hu2⟩:∃ u,w1.cell? ⟨g5,28,none⟩=some u:=⟨_,(hS.2.1.cell 28).trans (Array.getElem?_eq_getElem (by rw[S1.o.1];decide))⟩
   obtain⟨u3,hu3⟩:∃ u,w1.cell? ⟨g5,29,none⟩=some u:=⟨_,(hS.2.1.cell 29).trans (Array.getElem?_eq_getElem (by rw[S1.o.1];decide))⟩
   obtain⟨u4,hu4⟩:∃ u,w1.cell? ⟨g5,30,none⟩=some u:=⟨_,(hS.2.1.cell 30).trans (Array.getElem?_eq_getElem (by rw[S1.o.1];decide))⟩
   obtain⟨u5,hu5⟩:∃ u,w1.cell? ⟨g5,31,none⟩=some u:=⟨_,(hS.2.1.cell 31).trans (Array.getElem?_eq_getElem (by rw[S1.o.1];decide))⟩
   obtain⟨u6,hu6⟩:∃ u,w1.cell? ⟨g5,32,none⟩=some u:=⟨_,(hS.2.1.cell 32).trans (Array.getElem?_eq_getElem (by rw[S1.o.1];decide))⟩
   obtain⟨u7,hu7⟩:∃ u,w1.cell? ⟨g5,33,none⟩=some u:=⟨_,(hS.2.1.cell 33).trans (Array.getElem?_eq_getElem (by rw[S1.o.1];decide))⟩
   have e0:∀ j,w1.frozen? ⟨g5,j,none⟩=false:=fun j=>hS.2.1.free j;clear hS hvs;simp only[frm,h5,h10];go_simp;refine qa7 ⟨fz_keep9_8 HS.o.1 HNE.o _ _ _ _ _ _ _ _,?_,HS.o.2.2.trans (kz_keep9_8 _ _ _ _ _ _ _ _) (fun _ _ h=>h)⟩;rw[S1.o.2];exact bz_keep9_8 HS.o.2.1 _ _ _ _ _ _ _ _
 ·intro vs w5 hS hvs;replace hS:Bk w5 g 42 M∧Bk w5 g5 42 Z2∧Kp (fun k=>k=g5) W w5:=hS;change wpList _ _ _ [] (Act.put (Act.put (Act.put (Act.put (Act.put (Act.put (Act.put (Act.put (Act.put (Act.put (Act.put (Act.put (frm _ _ _ []) none (vs 11)) (some 13) (vs 10)) (some 12) (vs 9)) none (vs 8)) (some 11) (vs 7)) (some 10) (vs 6)) (some 9) (vs 5)) (some 8) (vs 4)) (some 7) (vs 3)) (some 6) (vs 2)) (some 5) (vs 1)) (some 4) (vs 0)) _;simp only[frm];clear hvs;generalize vs 0=z0;generalize vs 1=z1;generalize vs 2=z2;generalize vs 3=z3;generalize vs 4=z4;generalize vs 5=z5;generalize vs 6=z6;generalize vs 7=z7;generalize vs 8=z8;generalize vs 9=z9;generalize vs 10=z10;generalize vs 11=z11;have HS:=lh hS;clear hS
  go_wp2_with fail
  go_end0
  exact⟨rfl,HS.o.2.1,HKP.o.trans HS.o.2.2 (fun _ _ h=>h)⟩
theorem qv1 {w:World} {g:Nat} {t:TypeId} {Z:Array Value} (h:Bk w g t Z) (v0 v1:Value):Bk (((w).setCell ⟨g,24,none⟩ v0).setCell ⟨g,25,none⟩ v1) g t (qd0 Z 24 [v0,v1]):=((h.set 24 v0).set 25 v1)
theorem qt2 {w:World} {g k:Nat} {t:TypeId} {Z:Array Value} (h:Bk w k t Z) (hn:k≠g) (v0 v1:Value):Bk (((w).setCell ⟨g,24,none⟩ v0).setCell ⟨g,25,none⟩ v1) k t Z:=((h.far (p:=⟨g,24,none⟩) hn v0).far (p:=⟨g,25,none⟩) hn v1)
theorem qs7 {w:World} {g:Nat} (v0 v1:Value):Kp (fun k=>k=g) w (((w).setCell ⟨g,24,none⟩ v0).setCell ⟨g,25,none⟩ v1):=((Kp.refl _ _).trans (Kp.setCell (S:=fun k=>k=g) _ ⟨g,24,none⟩ v0 rfl) (fun _ _ h=>h)).trans (Kp.setCell (S:=fun k=>k=g) _ ⟨g,25,none⟩ v1 rfl) (fun _ _ h=>h)
theorem qv0 {w:World} {g:Nat} {t:TypeId} {Z:Array Value} (h:Bk w g t Z) (v0 v1 v2 v3 v4:Value):Bk ((((((w).setCell ⟨g,34,none⟩ v0).setCell ⟨g,35,none⟩ v1).setCell ⟨g,36,none⟩ v2).setCell ⟨g,37,none⟩ v3).setCell ⟨g,38,none⟩ v4) g t (qd0 Z 34 [v0,v1,v2,v3,v4]):=(((((h.set 34 v0).set 35 v1).set 36 v2).set 37 v3).set 38 v4)
theorem qt1 {w:World} {g k:Nat} {t:TypeId} {Z:Array Value} (h:Bk w k t Z) (hn:k≠g) (v0 v1 v2 v3 v4:Value):Bk ((((((w).setCell ⟨g,34,none⟩ v0).setCell ⟨g,35,none⟩ v1).setCell ⟨g,36,none⟩ v2).setCell ⟨g,37,none⟩ v3).setCell ⟨g,38,none⟩ v4) k t Z:=(((((h.far (p:=⟨g,34,none⟩) hn v0).far (p:=⟨g,35,none⟩) hn v1).far (p:=⟨g,36,none⟩) hn v2).far (p:=⟨g,37,none⟩) hn v3).far (p:=⟨g,38,none⟩) hn v4)
theorem qs6 {w:World} {g:Nat} (v0 v1 v2 v3 v4:Value):Kp (fun k=>k=g) w ((((((w).setCell ⟨g,34,none⟩ v0).setCell ⟨g,35,none⟩ v1).setCell ⟨g,36,none⟩ v2).setCell ⟨g,37,none⟩ v3).setCell ⟨g,38,none⟩ v4):=(((((Kp.refl _ _).trans (Kp.setCell (S:=fun k=>k=g) _ ⟨g,34,none⟩ v0 rfl) (fun _ _ h=>h)).trans (Kp.setCell (S:=fun k=>k=g) _ ⟨g,35,none⟩ v1 rfl) (fun _ _ h=>h)).trans (Kp.setCell (S:=fun k=>k=g) _ ⟨g,36,none⟩ v2 rfl) (fun _ _ h=>h)).trans (Kp.setCell (S:=fun k=>k=g) _ ⟨g,37,none⟩ v3 rfl) (fun _ _ h=>h)).trans (Kp.setCell (S:=fun k=>k=g) _ ⟨g,38,none⟩ v4 rfl) (fun _ _ h=>h)
theorem keep10 {w:World} (x:Ms) {A1 A2 A3 A4 A5 A6 A7 A8:Option Addr} {c1 c2 c3 c4 c5 c6 c7 c8:Nat} {M Z:Array Value} (hM:M=(mC x A1 A2 A3 A4 A5 A6 A7 A8 c1 c2 c3 c4 c5 c6 c7 c8)) {g5:Nat} (hz:Bk w g5 42 Z) (hs:Z.size=39):Calls Tryz.prog 96 #[pq g5 0,.agg M] w (qq5 g5 (qd0 (qd0 Z 24 [iv x.tm,iv x.ts]) 34 [iv x.claim.machine,iv x.claim.epoch,.slice A6 x.claim.stubs.length c6,.slice A7 x.claim.scions.length c7,.slice A8 x.claim.checks.length c8]) w):=by
 have HM:=lh hM;clear hM
 obtain⟨W,hW⟩:∃ W,W=w.alloc (.cells M 42):=⟨_,rfl⟩
 obtain⟨g,hg⟩:∃ g,g=w.heap.size:=⟨_,rfl⟩
 have hb0:bw w W:=by rw[hW];exact qa2 _ _
 have hk0:Bk W g 42 M:=by rw[hW,hg];exact Bk.new _ _ _
 have HNE:Hid (g≠g5):=lh (by have:=hz.lt;omega);have HZ0:=lh (hz.below hb0 hz.lt);have HG0:=lh hk0;have HKP:Hid (Kp (fun k=>k=g5) w W):=lh (Kp.of_below hb0)
 obtain⟨Z1,hZ1⟩:∃ Y,Y=qd0 Z 24 [iv x.tm,iv x.ts]:=⟨_,rfl⟩
 rw[← hZ1];have S0:=lh (And.intro hs hZ1);replace hs:Z1.size=39:=by rw[hZ1,qb4,hs]
 clear hZ1
 obtain⟨Z2,hZ2⟩:∃ Y,Y=qd0 Z1 34 [iv x.claim.machine,iv x.claim.epoch,.slice A6 x.claim.stubs.length c6,.slice A7 x.claim.scions.length c7,.slice A8 x.claim.checks.length c8]:=⟨_,rfl⟩
 rw[← hZ2];have S1:=lh (And.intro hs hZ2);replace hs:Z2.size=39:=by rw[hZ2,qb4,hs]
 clear hZ2;clear hb0 hk0 hz hs
 go_enter Tryz.func96,Tryz.ntmps96
 go_upto_region 1 with fail
 rw[← hW,← hg];clear hW hg;refine qc9 12 (fun i=>([[],[],[],[2],[],[4],[0],[6],[3,7],[1],[9],[5,10]]:List (List Nat)).getD i []) [8,11] (fun i=>([0,1,0,0,1,1,0,0,0,1,1,0]:List Nat).getD i 0) (fun zz=>([pq g5 0,pq g5 0,pq g 24,.agg #[iv x.tm,iv x.ts],pq g 34,.agg #[iv x.claim.machine,iv x.claim.epoch,.slice A6 x.claim.stubs.length c6,.slice A7 x.claim.scions.length c7,.slice A8 x.claim.checks.length c8],pq g5 0,pq g5 24,bf,pq g5 0,pq g5 34,bf]:List Value).getD zz (bf)) (KS g g5 M [Z,Z1,Z2] W) rfl (by kernel_rfl) (by rfl) (by kernel_rfl) ?_ ?_ ?_ ?_
 ·exact⟨HG0.o,HZ0.o,(Kp.refl _ W).drew⟩
 ·intro zi hzi hn zo ho k vs w1 hk hlow hS hvs;rcases (show zi=0 ∨ zi=1 ∨ zi=2 ∨ zi=3 ∨ zi=4 ∨ zi=5 ∨ zi=6 ∨ zi=7 ∨ zi=8 ∨ zi=9 ∨ zi=10 ∨ zi=11 by omega) with rfl | rfl | rfl | rfl | rfl | rfl | rfl | rfl | rfl | rfl | rfl | rfl <;> cases ho
  ·clear hS hvs hlow hk hn;change Sem.run _ (execOp (Act.eval (frm _ _ _ [])) _) _=_;simp only[frm];go_simp
  ·clear hS hvs hlow hk hn;change Sem.run _ (execOp (Act.eval (frm _ _ _ [])) _) _=_;simp only[frm];go_simp
  ·clear hS hvs hlow hk hn;change Sem.run _ (execOp (Act.eval (frm _ _ _ [])) _) _=_;simp only[frm];go_simp
  ·have h2:vs 2=pq g 24:=hvs 2 (by decide) (by decide);replace hk:k≤0:=hk;have hbk:=hS.1;have fc0:cl w1 g 24 (iv x.tm):=(hbk.cell 24).trans (by rw[HM.o];rfl);have fc1:cl w1 g 25 (iv x.ts):=(hbk.cell 25).trans (by rw[HM.o];rfl);clear hbk;clear hS hvs hlow hk hn;change Sem.run _ (execOp (Act.eval (Act.put (frm _ _ _ []) (some 6) (vs 2))) _) _=_;simp only[frm,h2];go_simp
  ·clear hS hvs hlow hk hn;change Sem.run _ (execOp (Act.eval (frm _ _ _ [])) _) _=_;simp only[frm];go_simp
  ·have h4:vs 4=pq g 34:=hvs 4 (by decide) (by decide);replace hk:k≤1:=hk;have hbk:=hS.1;have fc0:cl w1 g 34 (iv x.claim.machine):=(hbk.cell 34).trans (by rw[HM.o];rfl);have fc1:cl w1 g 35 (iv x.claim.epoch):=(hbk.cell 35).trans (by rw[HM.o];rfl);have fc2:cl w1 g 36 (.slice A6 x.claim.stubs.length c6):=(hbk.cell 36).trans (by rw[HM.o];rfl);have fc3:cl w1 g 37 (.slice A7 x.claim.scions.length c7):=(hbk.cell 37).trans (by rw[HM.o];rfl);have fc4:cl w1 g 38 (.slice A8 x.claim.checks.length c8):=(hbk.cell 38).trans (by rw[HM.o];rfl);clear hbk;clear hS hvs hlow hk hn;change Sem.run _ (execOp (Act.eval (Act.put (frm _ _ _ []) (some 8) (vs 4))) _) _=_;simp only[frm,h4];go_simp
  ·have h0:vs 0=pq g5 0:=hvs 0 (by decide) (by decide);clear hS hvs hlow hk hn;change Sem.run _ (execOp (Act.eval (Act.put (frm _ _ _ []) (some 4) (vs 0))) _) _=_;simp only[frm,h0];go_simp
  ·have h6:vs 6=pq g5 0:=hvs 6 (by decide) (by decide);clear hS hvs hlow hk hn;change Sem.run _ (execOp (Act.eval (Act.put (frm _ _ _ []) (some 10) (vs 6))) _) _=_;simp only[frm,h6];go_simp
  ·exact absurd (by decide) hn
  ·have h1:vs 1=pq g5 0:=hvs 1 (by decide) (by decide);clear hS hvs hlow hk hn;change Sem.run _ (execOp (Act.eval (Act.put (frm _ _ _ []) (some 5) (vs 1))) _) _=_;simp only[frm,h1];go_simp
  ·have h9:vs 9=pq g5 0:=hvs 9 (by decide) (by decide);clear hS hvs hlow hk hn;change Sem.run _ (execOp (Act.eval (Act.put (frm _ _ _ []) (some 12) (vs 9))) _) _=_;simp only[frm,h9];go_simp
  ·exact absurd (by decide) hn
 ·intro p hp o ho vs w1 hS hvs;rcases (show p=0 ∨ p=1 by change p < 2 at hp;omega) with rfl | rfl <;> cases ho
  ·replace hS:Bk w1 g 42 M∧Bk w1 g5 42 Z∧Kp (fun k=>k=g5) W w1:=hS;have h3:vs 3=.agg #[iv x.tm,iv x.ts]:=hvs 3 (by decide) (by decide);have h7:vs 7=pq g5 24:=hvs 7 (by decide) (by decide)
   show Made _ (fun v w2=>Bk w2 g 42 M∧Bk w2 g5 42 Z1∧Kp (fun k=>k=g5) W w2) _
   change Made _ _ (Sem.run _ (execOp (Act.eval (Act.put (Act.put (frm _ _ _ []) (some 11) (vs 7)) (some 7) (vs 3))) _) _);have HS:=lh hS
   obtain⟨u0,hu0⟩:∃ u,w1.cell? ⟨g5,24,none⟩=some u:=⟨_,(hS.2.1.cell 24).trans (Array.getElem?_eq_getElem (by rw[S0.o.1];decide))⟩
   obtain⟨u1,hu1⟩:∃ u,w1.cell? ⟨g5,25,none⟩=some u:=⟨_,(hS.2.1.cell 25).trans (Array.getElem?_eq_getElem (by rw[S0.o.1];decide))⟩
   have e0:∀ j,w1.frozen? ⟨g5,j,none⟩=false:=fun j=>hS.2.1.free j;clear hS hvs;simp only[frm,h3,h7];go_simp;refine qa7 ⟨qt2 HS.o.1 HNE.o _ _,?_,HS.o.2.2.trans (qs7 _ _) (fun _ _ h=>h)⟩;rw[S0.o.2];exact qv1 HS.o.2.1 _ _
  ·replace hS:Bk w1 g 42 M∧Bk w1 g5 42 Z1∧Kp (fun k=>k=g5) W w1:=hS;have h5:vs 5=.agg #[iv x.claim.machine,iv x.claim.epoch,.slice A6 x.claim.stubs.length c6,.slice A7 x.claim.scions.length c7,.slice A8 x.claim.checks.length c8]:=hvs 5 (by decide) (by decide);have h10:vs 10=pq g5 34:=hvs 10 (by decide) (by decide)
   show Made _ (fun v w2=>Bk w2 g 42 M∧Bk w2 g5 42 Z2∧Kp (fun k=>k=g5) W w2) _
   change Made _ _ (Sem.run _ (execOp (Act.eval (Act.put (Act.put (frm _ _ _ []) (some 13) (vs 10)) (some 9) (vs 5))) _) _);have HS:=lh hS
   obtain⟨u0,hu0⟩:∃ u,w1.cell? ⟨g5,34,none⟩=some u:=⟨_,(hS.2.1.cell 34).trans (Array.getElem?_eq_getElem (by rw[S1.o.1];decide))⟩
   obtain⟨u1,hu1⟩:∃ u,w1.cell? ⟨g5,35,none⟩=some u:=⟨_,(hS.2.1.cell 35).trans (Array.getElem?_eq_getElem (by rw[S1.o.1];decide))⟩
   obtain⟨u2,hu2⟩:∃ u,w1.cell? ⟨g5,36,none⟩=some u:=⟨_,(hS.2.1.cell 36).trans (Array.getElem?_eq_getElem (by rw[S1.o.1];decide))⟩
   obtain⟨u3,hu3⟩:∃ u,w1.cell? ⟨g5,37,none⟩=some u:=⟨_,(hS.2.1.cell 37).trans (Array.getElem?_eq_getElem (by rw[S1.o.1];decide))⟩
   obtain⟨u4,hu4⟩:∃ u,w1.cell? ⟨g5,38,none⟩=some u:=⟨_,(hS.2.1.cell 38).trans (Array.getElem?_eq_getElem (by rw[S1.o.1];decide))⟩
   have e0:∀ j,w1.frozen? ⟨g5,j,none⟩=false:=fun j=>hS.2.1.free j;clear hS hvs;simp only[frm,h5,h10];go_simp;refine qa7 ⟨qt1 HS.o.1 HNE.o _ _ _ _ _,?_,HS.o.2.2.trans (qs6 _ _ _ _ _) (fun _ _ h=>h)⟩;rw[S1.o.2];exact qv0 HS.o.2.1 _ _ _ _ _
 ·intro vs w5 hS hvs;replace hS:Bk w5 g 42 M∧Bk w5 g5 42 Z2∧Kp (fun k=>k=g5) W w5:=hS;change wpList _ _ _ [] (Act.put (Act.put (Act.put (Act.put (Act.put (Act.put (Act.put (Act.put (Act.put (Act.put (Act.put (Act.put (frm _ _ _ []) none (vs 11)) (some 13) (vs 10)) (some 12) (vs 9)) none (vs 8)) (some 11) (vs 7)) (some 10) (vs 6)) (some 9) (vs 5)) (some 8) (vs 4)) (some 7) (vs 3)) (some 6) (vs 2)) (some 5) (vs 1)) (some 4) (vs 0)) _;simp only[frm];clear hvs;generalize vs 0=z0;generalize vs 1=z1;generalize vs 2=z2;generalize vs 3=z3;generalize vs 4=z4;generalize vs 5=z5;generalize vs 6=z6;generalize vs 7=z7;generalize vs 8=z8;generalize vs 9=z9;generalize vs 10=z10;generalize vs 11=z11;have HS:=lh hS;clear hS
  go_wp2_with fail
  go_end0
  exact⟨rfl,HS.o.2.1,HKP.o.trans HS.o.2.2 (fun _ _ h=>h)⟩
theorem qu9 {w:World} {g:Nat} {t:TypeId} {Z:Array Value} (h:Bk w g t Z) (v0:Value):Bk ((w).setCell ⟨g,3,none⟩ v0) g t (qd0 Z 3 [v0]):=(h.set 3 v0)
theorem qt0 {w:World} {g k:Nat} {t:TypeId} {Z:Array Value} (h:Bk w k t Z) (hn:k≠g) (v0:Value):Bk ((w).setCell ⟨g,3,none⟩ v0) k t Z:=(h.far (p:=⟨g,3,none⟩) hn v0)
theorem qs5 {w:World} {g:Nat} (v0:Value):Kp (fun k=>k=g) w ((w).setCell ⟨g,3,none⟩ v0):=(Kp.refl _ _).trans (Kp.setCell (S:=fun k=>k=g) _ ⟨g,3,none⟩ v0 rfl) (fun _ _ h=>h)
theorem qu8 {w:World} {g:Nat} {t:TypeId} {Z:Array Value} (h:Bk w g t Z) (v0 v1 v2 v3 v4 v5 v6 v7:Value):Bk (((((((((w).setCell ⟨g,4,none⟩ v0).setCell ⟨g,5,none⟩ v1).setCell ⟨g,6,none⟩ v2).setCell ⟨g,7,none⟩ v3).setCell ⟨g,8,none⟩ v4).setCell ⟨g,9,none⟩ v5).setCell ⟨g,10,none⟩ v6).setCell ⟨g,11,none⟩ v7) g t (qd0 Z 4 [v0,v1,v2,v3,v4,v5,v6,v7]):=((((((((h.set 4 v0).set 5 v1).set 6 v2).set 7 v3).set 8 v4).set 9 v5).set 10 v6).set 11 v7)
theorem qs9 {w:World} {g k:Nat} {t:TypeId} {Z:Array Value} (h:Bk w k t Z) (hn:k≠g) (v0 v1 v2 v3 v4 v5 v6 v7:Value):Bk (((((((((w).setCell ⟨g,4,none⟩ v0).setCell ⟨g,5,none⟩ v1).setCell ⟨g,6,none⟩ v2).setCell ⟨g,7,none⟩ v3).setCell ⟨g,8,none⟩ v4).setCell ⟨g,9,none⟩ v5).setCell ⟨g,10,none⟩ v6).setCell ⟨g,11,none⟩ v7) k t Z:=((((((((h.far (p:=⟨g,4,none⟩) hn v0).far (p:=⟨g,5,none⟩) hn v1).far (p:=⟨g,6,none⟩) hn v2).far (p:=⟨g,7,none⟩) hn v3).far (p:=⟨g,8,none⟩) hn v4).far (p:=⟨g,9,none⟩) hn v5).far (p:=⟨g,10,none⟩) hn v6).far (p:=⟨g,11,none⟩) hn v7)
theorem qs4 {w:World} {g:Nat} (v0 v1 v2 v3 v4 v5 v6 v7:Value):Kp (fun k=>k=g) w (((((((((w).setCell ⟨g,4,none⟩ v0).setCell ⟨g,5,none⟩ v1).setCell ⟨g,6,none⟩ v2).setCell ⟨g,7,none⟩ v3).setCell ⟨g,8,none⟩ v4).setCell ⟨g,9,none⟩ v5).setCell ⟨g,10,none⟩ v6).setCell ⟨g,11,none⟩ v7):=((((((((Kp.refl _ _).trans (Kp.setCell (S:=fun k=>k=g) _ ⟨g,4,none⟩ v0 rfl) (fun _ _ h=>h)).trans (Kp.setCell (S:=fun k=>k=g) _ ⟨g,5,none⟩ v1 rfl) (fun _ _ h=>h)).trans (Kp.setCell (S:=fun k=>k=g) _ ⟨g,6,none⟩ v2 rfl) (fun _ _ h=>h)).trans (Kp.setCell (S:=fun k=>k=g) _ ⟨g,7,none⟩ v3 rfl) (fun _ _ h=>h)).trans (Kp.setCell (S:=fun k=>k=g) _ ⟨g,8,none⟩ v4 rfl) (fun _ _ h=>h)).trans (Kp.setCell (S:=fun k=>k=g) _ ⟨g,9,none⟩ v5 rfl) (fun _ _ h=>h)).trans (Kp.setCell (S:=fun k=>k=g) _ ⟨g,10,none⟩ v6 rfl) (fun _ _ h=>h)).trans (Kp.setCell (S:=fun k=>k=g) _ ⟨g,11,none⟩ v7 rfl) (fun _ _ h=>h)
theorem keep17 {w:World} (x:Ms) {A1 A2 A3 A4 A5 A6 A7 A8:Option Addr} {c1 c2 c3 c4 c5 c6 c7 c8:Nat} {M Z:Array Value} (hM:M=(mC x A1 A2 A3 A4 A5 A6 A7 A8 c1 c2 c3 c4 c5 c6 c7 c8)) {g5:Nat} (hz:Bk w g5 42 Z) (hs:Z.size=39):Calls Tryz.prog 100 #[pq g5 0,.agg M] w (qq5 g5 (qd0 (qd0 Z 3 [.string x.name]) 4 [iv x.ref.kind,iv x.ref.int,iv x.ref.owner,uv x.ref.number,iv x.ref.idm,iv x.ref.ids,iv x.ref.cls,.bool x.ref.weak]) w):=by
 have HM:=lh hM;clear hM
 obtain⟨W,hW⟩:∃ W,W=w.alloc (.cells M 42):=⟨_,rfl⟩
 obtain⟨g,hg⟩:∃ g,g=w.heap.size:=⟨_,rfl⟩
 have hb0:bw w W:=by rw[hW];exact qa2 _ _
 have hk0:Bk W g 42 M:=by rw[hW,hg];exact Bk.new _ _ _
 have HNE:Hid (g≠g5):=lh (by have:=hz.lt;omega);have HZ0:=lh (hz.below hb0 hz.lt);have HG0:=lh hk0;have HKP:Hid (Kp (fun k=>k=g5) w W):=lh (Kp.of_below hb0)
 obtain⟨Z1,hZ1⟩:∃ Y,Y=qd0 Z 3 [.string x.name]:=⟨_,rfl⟩
 rw[← hZ1];have S0:=lh (And.intro hs hZ1);replace hs:Z1.size=39:=by rw[hZ1,qb4,hs]
 clear hZ1
 obtain⟨Z2,hZ2⟩:∃ Y,Y=qd0 Z1 4 [iv x.ref.kind,iv x.ref.int,iv x.ref.owner,uv x.ref.number,iv x.ref.idm,iv x.ref.ids,iv x.ref.cls,.bool x.ref.weak]:=⟨_,rfl⟩
 rw[← hZ2];have S1:=lh (And.intro hs hZ2);replace hs:Z2.size=39:=by rw[hZ2,qb4,hs]
 clear hZ2;clear hb0 hk0 hz hs
 go_enter Tryz.func100,Tryz.ntmps100
 go_upto_region 1 with fail
 rw[← hW,← hg];clear hW hg;refine qc9 12 (fun i=>([[],[],[],[2],[],[4],[0],[6],[3,7],[1],[9],[5,10]]:List (List Nat)).getD i []) [8,11] (fun i=>([0,1,0,0,1,1,0,0,0,1,1,0]:List Nat).getD i 0) (fun zz=>([pq g5 0,pq g5 0,pq g 3,.string x.name,pq g 4,.agg #[iv x.ref.kind,iv x.ref.int,iv x.ref.owner,uv x.ref.number,iv x.ref.idm,iv x.ref.ids,iv x.ref.cls,.bool x.ref.weak],pq g5 0,pq g5 3,bf,pq g5 0,pq g5 4,bf]:List Value).getD zz (bf)) (KS g g5 M [Z,Z1,Z2] W) rfl (by kernel_rfl) (by rfl) (by kernel_rfl) ?_ ?_ ?_ ?_
 ·exact⟨HG0.o,HZ0.o,(Kp.refl _ W).drew⟩
 ·intro zi hzi hn zo ho k vs w1 hk hlow hS hvs;rcases (show zi=0 ∨ zi=1 ∨ zi=2 ∨ zi=3 ∨ zi=4 ∨ zi=5 ∨ zi=6 ∨ zi=7 ∨ zi=8 ∨ zi=9 ∨ zi=10 ∨ zi=11 by omega) with rfl | rfl | rfl | rfl | rfl | rfl | rfl | rfl | rfl | rfl | rfl | rfl <;> cases ho
  ·clear hS hvs hlow hk hn;change Sem.run _ (execOp (Act.eval (frm _ _ _ [])) _) _=_;simp only[frm];go_simp
  ·clear hS hvs hlow hk hn;change Sem.run _ (execOp (Act.eval (frm _ _ _ [])) _) _=_;simp only[frm];go_simp
  ·clear hS hvs hlow hk hn;change Sem.run _ (execOp (Act.eval (frm _ _ _ [])) _) _=_;simp only[frm];go_simp
  ·have h2:vs 2=pq g 3:=hvs 2 (by decide) (by decide);replace hk:k≤0:=hk;have hbk:=hS.1;have fc0:cl w1 g 3 (.string x.name):=(hbk.cell 3).trans (by rw[HM.o];rfl);clear hbk;clear hS hvs hlow hk hn;change Sem.run _ (execOp (Act.eval (Act.put (frm _ _ _ []) (some 6) (vs 2))) _) _=_;simp only[frm,h2];go_simp
  ·clear hS hvs hlow hk hn;change Sem.run _ (execOp (Act.eval (frm _ _ _ [])) _) _=_;simp only[frm];go_simp
  ·have h4:vs 4=pq g 4:=hvs 4 (by decide) (by decide);replace hk:k≤1:=hk;have hbk:=hS.1;have fc0:cl w1 g 4 (iv x.ref.kind):=(hbk.cell 4).trans (by rw[HM.o];rfl);have fc1:cl w1 g 5 (iv x.ref.int):=(hbk.cell 5).trans (by rw[HM.o];rfl);have fc2:cl w1 g 6 (iv x.ref.owner):=(hbk.cell 6).trans (by rw[HM.o];rfl);have fc3:cl w1 g 7 (uv x.ref.number):=(hbk.cell 7).trans (by rw[HM.o];rfl);have fc4:cl w1 g 8 (iv x.ref.idm):=(hbk.cell 8).trans (by rw[HM.o];rfl);have fc5:cl w1 g 9 (iv x.ref.ids):=(hbk.cell 9).trans (by rw[HM.o];rfl);have fc6:cl w1 g 10 (iv x.ref.cls):=(hbk.cell 10).trans (by rw[HM.o];rfl);have fc7:cl w1 g 11 (.bool x.ref.weak):=(hbk.cell 11).trans (by rw[HM.o];rfl);clear hbk;clear hS hvs hlow hk hn;change Sem.run _ (execOp (Act.eval (Act.put (frm _ _ _ []) (some 8) (vs 4))) _) _=_;simp only[frm,h4];go_simp
  ·have h0:vs 0=pq g5 0:=hvs 0 (by decide) (by decide);clear hS hvs hlow hk hn;change Sem.run _ (execOp (Act.eval (Act.put (frm _ _ _ []) (some 4) (vs 0))) _) _=_;simp only[frm,h0];go_simp
  ·have h6:vs 6=pq g5 0:=hvs 6 (by decide) (by decide);clear hS hvs hlow hk hn;change Sem.run _ (execOp (Act.eval (Act.put (frm _ _ _ []) (some 10) (vs 6))) _) _=_;simp only[frm,h6];go_simp
  ·exact absurd (by decide) hn
  ·have h1:vs 1=pq g5 0:=hvs 1 (by decide) (by decide);clear hS hvs hlow hk hn;change Sem.run _ (execOp (Act.eval (Act.put (frm _ _ _ []) (some 5) (vs 1))) _) _=_;simp only[frm,h1];go_simp
  ·have h9:vs 9=pq g5 0:=hvs 9 (by decide) (by decide);clear hS hvs hlow hk hn;change Sem.run _ (execOp (Act.eval (Act.put (frm _ _ _ []) (some 12) (vs 9))) _) _=_;simp only[frm,h9];go_simp
  ·exact absurd (by decide) hn
 ·intro p hp o ho vs w1 hS hvs;rcases (show p=0 ∨ p=1 by change p < 2 at hp;omega) with rfl | rfl <;> cases ho
  ·replace hS:Bk w1 g 42 M∧Bk w1 g5 42 Z∧Kp (fun k=>k=g5) W w1:=hS;have h3:vs 3=.string x.name:=hvs 3 (by decide) (by decide);have h7:vs 7=pq g5 3:=hvs 7 (by decide) (by decide)
   show Made _ (fun v w2=>Bk w2 g 42 M∧Bk w2 g5 42 Z1∧Kp (fun k=>k=g5) W w2) _
   change Made _ _ (Sem.run _ (execOp (Act.eval (Act.put (Act.put (frm _ _ _ []) (some 11) (vs 7)) (some 7) (vs 3))) _) _);have HS:=lh hS
   obtain⟨u0,hu0⟩:∃ u,w1.cell? ⟨g5,3,none⟩=some u:=⟨_,(hS.2.1.cell 3).trans (Array.getElem?_eq_getElem (by rw[S0.o.1];decide))⟩
   have e0:∀ j,w1.frozen? ⟨g5,j,none⟩=false:=fun j=>hS.2.1.free j;clear hS hvs;simp only[frm,h3,h7];go_simp;refine qa7 ⟨qt0 HS.o.1 HNE.o _,?_,HS.o.2.2.trans (qs5 _) (fun _ _ h=>h)⟩;rw[S0.o.2];exact qu9 HS.o.2.1 _
  ·replace hS:Bk w1 g 42 M∧Bk w1 g5 42 Z1∧Kp (fun k=>k=g5) W w1:=hS;have h5:vs 5=.agg #[iv x.ref.kind,iv x.ref.int,iv x.ref.owner,uv x.ref.number,iv x.ref.idm,iv x.ref.ids,iv x.ref.cls,.bool x.ref.weak]:=hvs 5 (by decide) (by decide);have h10:vs 10=pq g5 4:=hvs 10 (by decide) (by decide)
   show Made _ (fun v w2=>Bk w2 g 42 M∧Bk w2 g5 42 Z2∧Kp (fun k=>k=g5) W w2) _
   change Made _ _ (Sem.run _ (execOp (Act.eval (Act.put (Act.put (frm _ _ _ []) (some 13) (vs 10)) (some 9) (vs 5))) _) _);have HS:=lh hS
   obtain⟨u0,hu0⟩:∃ u,w1.cell? ⟨g5,4,none⟩=some u:=⟨_,(hS.2.1.cell 4).trans (Array.getElem?_eq_getElem (by rw[S1.o.1];decide))⟩
   obtain⟨u1,hu1⟩:∃ u,w1.cell? ⟨g5,5,none⟩=some u:=⟨_,(hS.2.1.cell 5).trans (Array.getElem?_eq_getElem (by rw[S1.o.1];decide))⟩
   obtain⟨u2,hu2⟩:∃ u,w1.cell? ⟨g5,6,none⟩=some u:=⟨_,(hS.2.1.cell 6).trans (Array.getElem?_eq_getElem (by rw[S1.o.1];decide))⟩
   obtain⟨u3,hu3⟩:∃ u,w1.cell? ⟨g5,7,none⟩=some u:=⟨_,(hS.2.1.cell 7).trans (Array.getElem?_eq_getElem (by rw[S1.o.1];decide))⟩
   obtain⟨u4,hu4⟩:∃ u,w1.cell? ⟨g5,8,none⟩=some u:=⟨_,(hS.2.1.cell 8).trans (Array.getElem?_eq_getElem (by rw[S1.o.1];decide))⟩
   obtain⟨u5,hu5⟩:∃ u,w1.cell? ⟨g5,9,none⟩=some u:=⟨_,(hS.2.1.cell 9).trans (Array.getElem?_eq_getElem (by rw[S1.o.1];decide))⟩
   obtain⟨u6,hu6⟩:∃ u,w1.cell? ⟨g5,10,none⟩=some u:=⟨_,(hS.2.1.cell 10).trans (Array.getElem?_eq_getElem (by rw[S1.o.1];decide))⟩
   obtain⟨u7,hu7⟩:∃ u,w1.cell? ⟨g5,11,none⟩=some u:=⟨_,(hS.2.1.cell 11).trans (Array.getElem?_eq_getElem (by rw[S1.o.1];decide))⟩
   have e0:∀ j,w1.frozen? ⟨g5,j,none⟩=false:=fun j=>hS.2.1.free j;clear hS hvs;simp only[frm,h5,h10];go_simp;refine qa7 ⟨qs9 HS.o.1 HNE.o _ _ _ _ _ _ _ _,?_,HS.o.2.2.trans (qs4 _ _ _ _ _ _ _ _) (fun _ _ h=>h)⟩;rw[S1.o.2];exact qu8 HS.o.2.1 _ _ _ _ _ _ _ _
 ·intro vs w5 hS hvs;replace hS:Bk w5 g 42 M∧Bk w5 g5 42 Z2∧Kp (fun k=>k=g5) W w5:=hS;change wpList _ _ _ [] (Act.put (Act.put (Act.put (Act.put (Act.put (Act.put (Act.put (Act.put (Act.put (Act.put (Act.put (Act.put (frm _ _ _ []) none (vs 11)) (some 13) (vs 10)) (some 12) (vs 9)) none (vs 8)) (some 11) (vs 7)) (some 10) (vs 6)) (some 9) (vs 5)) (some 8) (vs 4)) (some 7) (vs 3)) (some 6) (vs 2)) (some 5) (vs 1)) (some 4) (vs 0)) _;simp only[frm];clear hvs;generalize vs 0=z0;generalize vs 1=z1;generalize vs 2=z2;generalize vs 3=z3;generalize vs 4=z4;generalize vs 5=z5;generalize vs 6=z6;generalize vs 7=z7;generalize vs 8=z8;generalize vs 9=z9;generalize vs 10=z10;generalize vs 11=z11;have HS:=lh hS;clear hS
  go_wp2_with fail
  go_end0
  exact⟨rfl,HS.o.2.1,HKP.o.trans HS.o.2.2 (fun _ _ h=>h)⟩
end
end Go.Proofs.YtmbnlccafcfbeaaGreatDoor
