/- Parts of the proof: Wire9, Wire10, Wire11, Wire2, OwnK, SepE. -/
import Derived.Lib.BufferWrite
import Derived.Lib.SliceRun
import Derived.Test.YtmbnlccafcfbeaaGreatDoorPfA
import Derived.Test.YtmbnlccafcfbeaaGreatDoorPf1
import Derived.Test.YtmbnlccafcfbeaaGreatDoorPf2
import Derived.Test.YtmbnlccafcfbeaaGreatDoorPfGrowK
set_option linter.unusedVariables false
set_option linter.unusedSimpArgs false
set_option linter.unusedSectionVars false
set_option maxRecDepth 100000
set_option maxHeartbeats 64000000
namespace Go.Proofs.YtmbnlccafcfbeaaGreatDoor
section
open Go.RowKit
attribute [local go_sem] Oper.semAt_some
section
variable {w:World} {g bb p s c:Nat} {A:Option Addr} {b t:List Int} {x:Int}
theorem Bool1_no (h:RdR w g bb ⟨b,0⟩ A c) (hp:Bk w p 79 #[pq g 0]) (hb:b=[] ∨ ∃ x t,b=x::t∧1 < x):Calls Tryz.prog 160 #[pq p 0,pq s 0] w fun e w1=>e=.returned (iv 11)∧bw w w1:=by
 have p0:cl w p 0 (pq g 0):=hp.cell 0;have r0:cl w g 0 (.slice A b.length c):=h.bk.cell 0;have hcm:=h.cm;have hcp:=h.cap;dsimp only at hcp;rcases hb with rfl | ⟨x,t,rfl,hx⟩
 ·clear h hp
  go_enter Tryz.func160,Tryz.ntmps160
  go_wp2_with fail
  go_ret;exact⟨rfl,Below.refl _ _⟩
 ·obtain⟨b',o,hA,hbl,hc⟩:=h.sl.2.resolve_left (by simp);have e0:cl w b' o (.int .u8 x):=hc 0 _ rfl;have hlc:(x::t).length=t.length+1:=rfl;rw[hlc] at r0 hcp;have d0:((t.length:Int)+1 == 0)=false:=by simpa using (show ¬ ((t.length:Int)+1=0) by omega)
  have d1:decide (x > 1)=true:=decide_eq_true hx;have h00:0 < t.length+1:=by omega
  subst hA;clear h hp hc hbl hlc hx
  go_enter Tryz.func160,Tryz.ntmps160
  go_wp2_with fail
  go_ret;exact⟨rfl,Below.refl _ _⟩
theorem Bool1_ok (h:RdR w g bb ⟨x::t,0⟩ A c) (hp:Bk w p 79 #[pq g 0]) (hs:Bk w s 4 #[bf]) (hsb:s≠bb) (hx:x≤1):Calls Tryz.prog 160 #[pq p 0,pq s 0] w fun e w1=>e=.returned (iv 0)∧RdX w1 g bb ⟨t,0⟩∧(Bk w1 s 4 #[.bool (decide (x=1))]∧Kp (fun k=>k=g ∨ k=s) w w1):=by
 have hcm:=h.cm;have hcp:=h.cap;have hcp:t.length+1≤c:=hcp;obtain⟨b',o,hA,hbl,hc⟩:=h.sl.2.resolve_left (by simp);obtain⟨rfl,_⟩:=h.at_ b' o none hA;subst hA;have hx8:=h.b8 x (by simp);have p0:cl w p 0 (pq g 0):=hp.cell 0;have r0:cl w g 0 (.slice (some ⟨b',o,none⟩) (t.length+1) c):=h.bk.cell 0;have e0:cl w b' o (.int .u8 x):=hc 0 _ rfl;have d0:((t.length:Int)+1 == 0)=false:=by simpa using (show ¬ ((t.length:Int)+1=0) by omega)
 have d1:decide (x > 1)=false:=decide_eq_false (by omega);have h00:0 < t.length+1:=by omega
 have HNE:Hid (g≠s∧p≠s∧p≠g):=lh (by
  have hb:=h.bk;unfold Bk at hs hp hb;refine⟨fun e=>?_,fun e=>?_,fun e=>?_⟩
  ·rw[e,hs] at hb;cases hb
  ·rw[e,hs] at hp;cases hp
  ·rw[e,hb] at hp;cases hp)
 have H:=lh h;have HR:=lh (And.intro h.bk (And.intro hp hs));have HC:=lh (And.intro hbl hc)
 obtain⟨X,hX⟩:∃ X,X=(x == 1):=⟨_,rfl⟩
 have HX:Hid (X=decide (x=1)):=lh hX
 obtain⟨W1,hW1⟩:∃ W1,W1=w.drew.setCell ⟨s,0,none⟩ (.bool X):=⟨_,rfl⟩
 have hg0:w.drew.cell? ⟨g,0,none⟩=some (.slice (some ⟨b',o,none⟩) (t.length+1) c):=r0;have hp0:w.drew.cell? ⟨p,0,none⟩=some (pq g 0):=p0;have he0:w.drew.cell? ⟨b',o,none⟩=some (.int .u8 x):=e0;have hs0:w.drew.cell? ⟨s,0,none⟩=some (bf):=hs.cell 0;have hsf:w.drew.frozen? ⟨s,0,none⟩=false:=hs.free 0;have hrb:Bk w.drew g 103 #[.slice (some ⟨b',o,none⟩) (t.length+1) c,iv 0]:=h.bk;have hpb:Bk w.drew p 79 #[pq g 0]:=hp;have hsk:Bk w.drew s 4 #[bf]:=hs;have hr1:=hrb.far (p:=⟨s,0,none⟩) HNE.o.1 (.bool X);have hg1:W1.cell? ⟨g,0,none⟩=some (.slice (some ⟨b',o,none⟩) (t.length+1) c):=by rw[hW1];exact hr1.cell 0
 have hgf:W1.frozen? ⟨g,0,none⟩=false:=by rw[hW1];exact hr1.free 0
 have hp1:W1.cell? ⟨p,0,none⟩=some (pq g 0):=by rw[hW1];exact(hpb.far (p:=⟨s,0,none⟩) HNE.o.2.1 _).cell 0
 have he1:W1.cell? ⟨b',o,none⟩=some (.int .u8 x):=by
  rw[hW1];exact(World.cell?_of_block (a:=⟨b',o,none⟩) (Below.heap_setCell _ _ _ _ (fun e=>hsb e.symm))).trans he0
 have HB1:Hid (Bk W1 g 103 #[.slice (some ⟨b',o,none⟩) (t.length+1) c,iv 0]∧Bk W1 s 4 #[.bool X]∧Kp (fun k=>k=s) w W1):=lh ⟨by rw[hW1];exact hr1,by rw[hW1];exact hsk.set 0 _,by
  rw[hW1]
  exact(Kp.setCell (S:=fun k=>k=s) w ⟨s,0,none⟩ (.bool X) rfl).drew⟩
 have HF:=lh (And.intro hg0 (And.intro hp0 (And.intro he0 (And.intro hg1 (And.intro hp1 (And.intro he1 (And.intro hs0 (And.intro hsf hgf))))))));have HW1:=lh hW1;have hx80:=hx8.1;clear h hp hs hbl hc hX hW1 hg0 hp0 he0 hs0 hsf hrb hpb hsk hr1 hg1 hgf hp1 he1 hx8
 go_enter Tryz.func160,Tryz.ntmps160
 go_upto_region 3 with fail
 clear p0 r0 e0
 by_cases hc1:c=1
 ·subst hc1;have ht0:t.length=0:=by omega
  obtain⟨W2,hW2⟩:∃ W2,W2=W1.setCell ⟨g,0,none⟩ (.slice (some ⟨b',o,none⟩) 0 0):=⟨_,rfl⟩
  have HW2:=lh hW2;rw[ht0] at HF;have HF2:Hid (w.drew.cell? ⟨g,0,none⟩=some (.slice (some ⟨b',o,none⟩) 1 1)∧cl W1 g 0 (.slice (some ⟨b',o,none⟩) 1 1)):=lh ⟨HF.o.1,HF.o.2.2.2.1⟩;clear hW2 hcp;refine qf4 17 (fun i=>([[],[],[1],[2],[3],[4],[5],[6],[],[8],[9],[10],[11],[7],[0],[14],[12,15]]:List (List Nat)).getD i []) (fun L vs wI=>wI=stg L 16 (stg L 13 w.drew W1) W2∧Vals ([some (pq g 0),some (pq g 0),some (pq g 0),some (pq g 0),some (.slice (some ⟨b',o,none⟩) 1 1),some (pq b' o),some (.int .u8 x),some (.bool X),some (pq g 0),some (pq g 0),some (pq g 0),some (.slice (some ⟨b',o,none⟩) 1 1),some (.slice (some ⟨b',o,none⟩) 0 0),none,some (pq g 0),some (pq g 0),none]:List (Option Value)) L vs) rfl (by kernel_rfl) (by rfl) (fun vs=>?_) ?_ ?_
  ·refine⟨?_,fun k v _ h=>by rw[getD_replicate_false] at h;cases h⟩;unfold stg;rw[getD_replicate_false,getD_replicate_false,if_neg (by simp),if_neg (by simp)]
   all_goals exact rfl
  ·intro i hi o ho L vs w8 hls hun hwt hcl hI;have hun2:=und' hun;rcases (show i=0 ∨ i=1 ∨ i=2 ∨ i=3 ∨ i=4 ∨ i=5 ∨ i=6 ∨ i=7 ∨ i=8 ∨ i=9 ∨ i=10 ∨ i=11 ∨ i=12 ∨ i=13 ∨ i=14 ∨ i=15 ∨ i=16 by omega) with rfl | rfl | rfl | rfl | rfl | rfl | rfl | rfl | rfl | rfl | rfl | rfl | rfl | rfl | rfl | rfl | rfl <;> cases ho
   ·have n2:L.getD 16 false=false:=hcl.nd hun2 (by kernel_rfl);have hw:w8=stg L 13 w.drew W1:=hI.1.trans (qa8 _ _ n2);have ec:w8.cell? ⟨p,0,none⟩=some (pq g 0):=by rw[hw];exact qb8 (fun w:World=>cl w p 0 (pq g 0:Value)) HF.o.2.1 HF.o.2.2.2.2.1
    have hI2:=lh (And.intro hI (And.intro hls hw));clear hI hwt hun hun2 hcl hls n2 hw;change Made _ _ (Sem.run _ (execOp (Act.eval (frm _ _ _ [])) _) _);simp only[frm];go_simp;refine qa5 ⟨?_,hI2.out.1.2.put fun x hx=>by cases hx;rfl⟩;rw[qa3 _ _ (by decide),qa3 _ _ (by decide)];exact hI2.out.1.1
   ·have n2:L.getD 16 false=false:=hcl.nd hun2 (by kernel_rfl);have hw:w8=stg L 13 w.drew W1:=hI.1.trans (qa8 _ _ n2);have ec:w8.cell? ⟨p,0,none⟩=some (pq g 0):=by rw[hw];exact qb8 (fun w:World=>cl w p 0 (pq g 0:Value)) HF.o.2.1 HF.o.2.2.2.2.1
    have hI2:=lh (And.intro hI (And.intro hls hw));clear hI hwt hun hun2 hcl hls n2 hw;change Made _ _ (Sem.run _ (execOp (Act.eval (frm _ _ _ [])) _) _);simp only[frm];go_simp;refine qa5 ⟨?_,hI2.out.1.2.put fun x hx=>by cases hx;rfl⟩;rw[qa3 _ _ (by decide),qa3 _ _ (by decide)];exact hI2.out.1.1
   ·have h1:vs 1=pq g 0:=hI.2 1 _ rfl (hwt 1 (by kernel_rfl));have n2:L.getD 16 false=false:=hcl.nd hun2 (by kernel_rfl);have hw:w8=stg L 13 w.drew W1:=hI.1.trans (qa8 _ _ n2);have hI2:=lh (And.intro hI (And.intro hls hw));clear hI hwt hun hun2 hcl hls n2 hw;change Made _ _ (Sem.run _ (execOp (Act.eval (Act.put (frm _ _ _ []) (some 19) (vs 1))) _) _);simp only[frm,h1];go_simp;refine qa5 ⟨?_,hI2.out.1.2.put fun x hx=>by cases hx;rfl⟩;rw[qa3 _ _ (by decide),qa3 _ _ (by decide)];exact hI2.out.1.1
   ·have h2:vs 2=pq g 0:=hI.2 2 _ rfl (hwt 2 (by kernel_rfl));have n2:L.getD 16 false=false:=hcl.nd hun2 (by kernel_rfl);have hw:w8=stg L 13 w.drew W1:=hI.1.trans (qa8 _ _ n2);have hI2:=lh (And.intro hI (And.intro hls hw));clear hI hwt hun hun2 hcl hls n2 hw;change Made _ _ (Sem.run _ (execOp (Act.eval (Act.put (frm _ _ _ []) (some 20) (vs 2))) _) _);simp only[frm,h2];go_simp;refine qa5 ⟨?_,hI2.out.1.2.put fun x hx=>by cases hx;rfl⟩;rw[qa3 _ _ (by decide),qa3 _ _ (by decide)];exact hI2.out.1.1
   ·have h3:vs 3=pq g 0:=hI.2 3 _ rfl (hwt 3 (by kernel_rfl));have n2:L.getD 16 false=false:=hcl.nd hun2 (by kernel_rfl);have hw:w8=stg L 13 w.drew W1:=hI.1.trans (qa8 _ _ n2);have ec:w8.cell? ⟨g,0,none⟩=some (.slice (some ⟨b',o,none⟩) 1 1):=by rw[hw];exact qb8 (fun w:World=>cl w g 0 (.slice (some ⟨b',o,none⟩) 1 1:Value)) HF2.o.1 HF2.o.2
    have hI2:=lh (And.intro hI (And.intro hls hw));clear hI hwt hun hun2 hcl hls n2 hw;change Made _ _ (Sem.run _ (execOp (Act.eval (Act.put (frm _ _ _ []) (some 21) (vs 3))) _) _);simp only[frm,h3];go_simp;refine qa5 ⟨?_,hI2.out.1.2.put fun x hx=>by cases hx;rfl⟩;rw[qa3 _ _ (by decide),qa3 _ _ (by decide)];exact hI2.out.1.1
   ·have h4:vs 4=.slice (some ⟨b',o,none⟩) 1 1:=hI.2 4 _ rfl (hwt 4 (by kernel_rfl));have n2:L.getD 16 false=false:=hcl.nd hun2 (by kernel_rfl);have hw:w8=stg L 13 w.drew W1:=hI.1.trans (qa8 _ _ n2);have hI2:=lh (And.intro hI (And.intro hls hw));clear hI hwt hun hun2 hcl hls n2 hw;change Made _ _ (Sem.run _ (execOp (Act.eval (Act.put (frm _ _ _ []) (some 22) (vs 4))) _) _);simp only[frm,h4];go_simp;refine qa5 ⟨?_,hI2.out.1.2.put fun x hx=>by cases hx;rfl⟩;rw[qa3 _ _ (by decide),qa3 _ _ (by decide)];exact hI2.out.1.1
   ·have h5:vs 5=pq b' o:=hI.2 5 _ rfl (hwt 5 (by kernel_rfl));have n2:L.getD 16 false=false:=hcl.nd hun2 (by kernel_rfl);have hw:w8=stg L 13 w.drew W1:=hI.1.trans (qa8 _ _ n2);have ec:w8.cell? ⟨b',o,none⟩=some (.int .u8 x):=by rw[hw];exact qb8 (fun w:World=>cl w b' o (.int .u8 x:Value)) HF.o.2.2.1 HF.o.2.2.2.2.2.1
    have hI2:=lh (And.intro hI (And.intro hls hw));clear hI hwt hun hun2 hcl hls n2 hw;change Made _ _ (Sem.run _ (execOp (Act.eval (Act.put (frm _ _ _ []) (some 23) (vs 5))) _) _);simp only[frm,h5];go_simp;refine qa5 ⟨?_,hI2.out.1.2.put fun x hx=>by cases hx;rfl⟩;rw[qa3 _ _ (by decide),qa3 _ _ (by decide)];exact hI2.out.1.1
   ·have h6:vs 6=.int .u8 x:=hI.2 6 _ rfl (hwt 6 (by kernel_rfl));have n2:L.getD 16 false=false:=hcl.nd hun2 (by kernel_rfl);have hw:w8=stg L 13 w.drew W1:=hI.1.trans (qa8 _ _ n2);have hXX:(x == 1)=X:=by rw[HX.o];rfl
    have hI2:=lh (And.intro hI (And.intro hls hw));clear hI hwt hun hun2 hcl hls n2 hw;change Made _ _ (Sem.run _ (execOp (Act.eval (Act.put (frm _ _ _ []) (some 24) (vs 6))) _) _);simp only[frm,h6];go_simp;refine qa5 ⟨?_,hI2.out.1.2.put fun x hx=>by cases hx;rfl⟩;rw[qa3 _ _ (by decide),qa3 _ _ (by decide)];exact hI2.out.1.1
   ·have n2:L.getD 16 false=false:=hcl.nd hun2 (by kernel_rfl);have hw:w8=stg L 13 w.drew W1:=hI.1.trans (qa8 _ _ n2);have ec:w8.cell? ⟨p,0,none⟩=some (pq g 0):=by rw[hw];exact qb8 (fun w:World=>cl w p 0 (pq g 0:Value)) HF.o.2.1 HF.o.2.2.2.2.1
    have hI2:=lh (And.intro hI (And.intro hls hw));clear hI hwt hun hun2 hcl hls n2 hw;change Made _ _ (Sem.run _ (execOp (Act.eval (frm _ _ _ [])) _) _);simp only[frm];go_simp;refine qa5 ⟨?_,hI2.out.1.2.put fun x hx=>by cases hx;rfl⟩;rw[qa3 _ _ (by decide),qa3 _ _ (by decide)];exact hI2.out.1.1
   ·have h8:vs 8=pq g 0:=hI.2 8 _ rfl (hwt 8 (by kernel_rfl));have n2:L.getD 16 false=false:=hcl.nd hun2 (by kernel_rfl);have hw:w8=stg L 13 w.drew W1:=hI.1.trans (qa8 _ _ n2);have hI2:=lh (And.intro hI (And.intro hls hw));clear hI hwt hun hun2 hcl hls n2 hw;change Made _ _ (Sem.run _ (execOp (Act.eval (Act.put (frm _ _ _ []) (some 26) (vs 8))) _) _);simp only[frm,h8];go_simp;refine qa5 ⟨?_,hI2.out.1.2.put fun x hx=>by cases hx;rfl⟩;rw[qa3 _ _ (by decide),qa3 _ _ (by decide)];exact hI2.out.1.1
   ·have h9:vs 9=pq g 0:=hI.2 9 _ rfl (hwt 9 (by kernel_rfl));have n2:L.getD 16 false=false:=hcl.nd hun2 (by kernel_rfl);have hw:w8=stg L 13 w.drew W1:=hI.1.trans (qa8 _ _ n2);have hI2:=lh (And.intro hI (And.intro hls hw));clear hI hwt hun hun2 hcl hls n2 hw;change Made _ _ (Sem.run _ (execOp (Act.eval (Act.put (frm _ _ _ []) (some 27) (vs 9))) _) _);simp only[frm,h9];go_simp;refine qa5 ⟨?_,hI2.out.1.2.put fun x hx=>by cases hx;rfl⟩;rw[qa3 _ _ (by decide),qa3 _ _ (by decide)];exact hI2.out.1.1
   ·have h10:vs 10=pq g 0:=hI.2 10 _ rfl (hwt 10 (by kernel_rfl));have n2:L.getD 16 false=false:=hcl.nd hun2 (by kernel_rfl);have hw:w8=stg L 13 w.drew W1:=hI.1.trans (qa8 _ _ n2);have ec:w8.cell? ⟨g,0,none⟩=some (.slice (some ⟨b',o,none⟩) 1 1):=by rw[hw];exact qb8 (fun w:World=>cl w g 0 (.slice (some ⟨b',o,none⟩) 1 1:Value)) HF2.o.1 HF2.o.2
    have hI2:=lh (And.intro hI (And.intro hls hw));clear hI hwt hun hun2 hcl hls n2 hw;change Made _ _ (Sem.run _ (execOp (Act.eval (Act.put (frm _ _ _ []) (some 28) (vs 10))) _) _);simp only[frm,h10];go_simp;refine qa5 ⟨?_,hI2.out.1.2.put fun x hx=>by cases hx;rfl⟩;rw[qa3 _ _ (by decide),qa3 _ _ (by decide)];exact hI2.out.1.1
   ·have h11:vs 11=.slice (some ⟨b',o,none⟩) 1 1:=hI.2 11 _ rfl (hwt 11 (by kernel_rfl));have n2:L.getD 16 false=false:=hcl.nd hun2 (by kernel_rfl);have hw:w8=stg L 13 w.drew W1:=hI.1.trans (qa8 _ _ n2);have hI2:=lh (And.intro hI (And.intro hls hw));clear hI hwt hun hun2 hcl hls n2 hw;change Made _ _ (Sem.run _ (execOp (Act.eval (Act.put (frm _ _ _ []) (some 29) (vs 11))) _) _);simp only[frm,h11];go_simp;refine qa5 ⟨?_,hI2.out.1.2.put fun x hx=>by cases hx;rfl⟩;rw[qa3 _ _ (by decide),qa3 _ _ (by decide)];exact hI2.out.1.1
   ·have h7:vs 7=.bool X:=hI.2 7 _ rfl (hwt 7 (by kernel_rfl));have n2:L.getD 16 false=false:=hcl.nd hun2 (by kernel_rfl);have hw:w8=w.drew:=hI.1.trans ((qa8 _ _ n2).trans (qa8 _ _ hun2));subst hw;have es:=HF.o.2.2.2.2.2.2.1;have ef:=HF.o.2.2.2.2.2.2.2.1;have hI2:=lh (And.intro hI (And.intro hls n2));clear hI hwt hun hun2 hcl hls n2;change Made _ _ (Sem.run _ (execOp (Act.eval (Act.put (frm _ _ _ []) (some 25) (vs 7))) _) _);simp only[frm,h7];go_simp;refine qa7 ⟨?_,hI2.out.1.2.put fun x hx=>by cases hx⟩;rw[qa3 _ _ (by decide),qa8 _ _ hI2.out.2.2,qj5 _ _ (by rw[hI2.out.2.1];decide)];exact HW1.o.symm
   ·have h0:vs 0=pq g 0:=hI.2 0 _ rfl (hwt 0 (by kernel_rfl));have n15_:L.getD 15 false=false:=hcl.nd hun2 (by kernel_rfl);have n2:L.getD 16 false=false:=hcl.nd n15_ (by kernel_rfl);have hw:w8=stg L 13 w.drew W1:=hI.1.trans (qa8 _ _ n2);have hI2:=lh (And.intro hI (And.intro hls hw));clear hI hwt hun hun2 hcl hls n2 hw;change Made _ _ (Sem.run _ (execOp (Act.eval (Act.put (frm _ _ _ []) (some 18) (vs 0))) _) _);simp only[frm,h0];go_simp;refine qa5 ⟨?_,hI2.out.1.2.put fun x hx=>by cases hx;rfl⟩;rw[qa3 _ _ (by decide),qa3 _ _ (by decide)];exact hI2.out.1.1
   ·have h14:vs 14=pq g 0:=hI.2 14 _ rfl (hwt 14 (by kernel_rfl));have n2:L.getD 16 false=false:=hcl.nd hun2 (by kernel_rfl);have hw:w8=stg L 13 w.drew W1:=hI.1.trans (qa8 _ _ n2);have hI2:=lh (And.intro hI (And.intro hls hw));clear hI hwt hun hun2 hcl hls n2 hw;change Made _ _ (Sem.run _ (execOp (Act.eval (Act.put (frm _ _ _ []) (some 31) (vs 14))) _) _);simp only[frm,h14];go_simp;refine qa5 ⟨?_,hI2.out.1.2.put fun x hx=>by cases hx;rfl⟩;rw[qa3 _ _ (by decide),qa3 _ _ (by decide)];exact hI2.out.1.1
   ·have h12:vs 12=.slice (some ⟨b',o,none⟩) 0 0:=hI.2 12 _ rfl (hwt 12 (by kernel_rfl));have h15:vs 15=pq g 0:=hI.2 15 _ rfl (hwt 15 (by kernel_rfl));have hw:w8=W1:=hI.1.trans ((qa8 _ _ hun2).trans (qh0 _ _ (hwt 13 (by kernel_rfl))));subst hw;have es:=HF2.o.2;have ef:=HF.o.2.2.2.2.2.2.2.2;have hI2:=lh (And.intro hI hls);clear hI hwt hun hun2 hcl hls;change Made _ _ (Sem.run _ (execOp (Act.eval (Act.put (Act.put (frm _ _ _ []) (some 32) (vs 15)) (some 30) (vs 12))) _) _);simp only[frm,h12,h15];go_simp;refine qa7 ⟨?_,hI2.out.1.2.put fun x hx=>by cases hx⟩;rw[qj5 _ _ (by rw[hI2.out.2];decide)];exact HW2.o.symm
  ·intro L vs w8 hls hall hI;have hw:w8=W2:=hI.1.trans (qh0 _ _ (hall 16 (by decide)));have h0:vs 0=pq g 0:=hI.2 0 _ rfl (hall 0 (by decide));have h1:vs 1=pq g 0:=hI.2 1 _ rfl (hall 1 (by decide));have h2:vs 2=pq g 0:=hI.2 2 _ rfl (hall 2 (by decide));have h3:vs 3=pq g 0:=hI.2 3 _ rfl (hall 3 (by decide));have h4:vs 4=.slice (some ⟨b',o,none⟩) 1 1:=hI.2 4 _ rfl (hall 4 (by decide));have h5:vs 5=pq b' o:=hI.2 5 _ rfl (hall 5 (by decide));have h6:vs 6=.int .u8 x:=hI.2 6 _ rfl (hall 6 (by decide));have h7:vs 7=.bool X:=hI.2 7 _ rfl (hall 7 (by decide));have h8:vs 8=pq g 0:=hI.2 8 _ rfl (hall 8 (by decide));have h9:vs 9=pq g 0:=hI.2 9 _ rfl (hall 9 (by decide));have h10:vs 10=pq g 0:=hI.2 10 _ rfl (hall 10 (by decide));have h11:vs 11=.slice (some ⟨b',o,none⟩) 1 1:=hI.2 11 _ rfl (hall 11 (by decide));have h12:vs 12=.slice (some ⟨b',o,none⟩) 0 0:=hI.2 12 _ rfl (hall 12 (by decide));have h14:vs 14=pq g 0:=hI.2 14 _ rfl (hall 14 (by decide));have h15:vs 15=pq g 0:=hI.2 15 _ rfl (hall 15 (by decide));change wpList _ _ _ [] (Act.put (Act.put (Act.put (Act.put (Act.put (Act.put (Act.put (Act.put (Act.put (Act.put (Act.put (Act.put (Act.put (Act.put (Act.put (Act.put (Act.put (frm _ _ _ []) none (vs 16)) (some 32) (vs 15)) (some 31) (vs 14)) none (vs 13)) (some 30) (vs 12)) (some 29) (vs 11)) (some 28) (vs 10)) (some 27) (vs 9)) (some 26) (vs 8)) (some 25) (vs 7)) (some 24) (vs 6)) (some 23) (vs 5)) (some 22) (vs 4)) (some 21) (vs 3)) (some 20) (vs 2)) (some 19) (vs 1)) (some 18) (vs 0)) _;simp only[frm,h0,h1,h2,h3,h4,h5,h6,h7,h8,h9,h10,h11,h12,h14,h15];generalize vs 13=vz13;generalize vs 16=vz16;rw[hw];clear hw hI hall hls h0 h1 h2 h3 h4 h5 h6 h7 h8 h9 h10 h11 h12 h14 h15;have HT8:Hid (B8 t):=lh fun y hy=>H.o.b8 y (by simp[hy]);have HD:Hid (t=[]):=lh (List.length_eq_zero_iff.1 ht0);have HK2:Hid (Kp (fun k=>k=g ∨ k=s) w W2):=lh (by rw[HW2.o];exact(HB1.o.2.2.mono (T:=fun k=>k=g ∨ k=s) fun _ _ h=>.inr h).trans (Kp.setCell (S:=fun k=>k=g) _ ⟨g,0,none⟩ _ rfl) fun _ _ h=>.inl h);have HS2:Hid (Bk W2 s 4 #[.bool X]):=lh (by rw[HW2.o];exact HB1.o.2.1.far (p:=⟨g,0,none⟩) (fun e=>HNE.o.1 e.symm) _);clear HF HF2
   go_wp2_with fail
   go_ret;exact⟨rfl,⟨some ⟨b',o,none⟩,0,⟨by rw[HW2.o,HD.o];exact HB1.o.1.set 0 _,by rw[HD.o];exact Nat.le_refl _,Nat.zero_le _,by rw[HD.o];exact Sl.nil _ _ _,fun b o m e=>(by cases e;exact⟨rfl,rfl⟩),fun e=>(by cases e),H.o.ne,HT8.o⟩⟩,by have h9:=HS2.o;rw[HX.o] at h9;exact h9,HK2.o⟩
 ·obtain⟨W2,hW2⟩:∃ W2,W2=W1.setCell ⟨g,0,none⟩ (.slice (some ⟨b',o+1,none⟩) t.length (c - 1)):=⟨_,rfl⟩
  have HW2:=lh hW2;have HF2:Hid (w.drew.cell? ⟨g,0,none⟩=some (.slice (some ⟨b',o,none⟩) (t.length+1) c)∧cl W1 g 0 (.slice (some ⟨b',o,none⟩) (t.length+1) c)):=lh ⟨HF.o.1,HF.o.2.2.2.1⟩;clear hW2 hcp;refine qf4 17 (fun i=>([[],[],[1],[2],[3],[4],[5],[6],[],[8],[9],[10],[11],[7],[0],[14],[12,15]]:List (List Nat)).getD i []) (fun L vs wI=>wI=stg L 16 (stg L 13 w.drew W1) W2∧Vals ([some (pq g 0),some (pq g 0),some (pq g 0),some (pq g 0),some (.slice (some ⟨b',o,none⟩) (t.length+1) c),some (pq b' o),some (.int .u8 x),some (.bool X),some (pq g 0),some (pq g 0),some (pq g 0),some (.slice (some ⟨b',o,none⟩) (t.length+1) c),some (.slice (some ⟨b',o+1,none⟩) t.length (c - 1)),none,some (pq g 0),some (pq g 0),none]:List (Option Value)) L vs) rfl (by kernel_rfl) (by rfl) (fun vs=>?_) ?_ ?_
  ·refine⟨?_,fun k v _ h=>by rw[getD_replicate_false] at h;cases h⟩;unfold stg;rw[getD_replicate_false,getD_replicate_false,if_neg (by simp),if_neg (by simp)]
   all_goals exact rfl
  ·intro i hi o ho L vs w8 hls hun hwt hcl hI;have hun2:=und' hun;rcases (show i=0 ∨ i=1 ∨ i=2 ∨ i=3 ∨ i=4 ∨ i=5 ∨ i=6 ∨ i=7 ∨ i=8 ∨ i=9 ∨ i=10 ∨ i=11 ∨ i=12 ∨ i=13 ∨ i=14 ∨ i=15 ∨ i=16 by omega) with rfl | rfl | rfl | rfl | rfl | rfl | rfl | rfl | rfl | rfl | rfl | rfl | rfl | rfl | rfl | rfl | rfl <;> cases ho
   ·have n2:L.getD 16 false=false:=hcl.nd hun2 (by kernel_rfl);have hw:w8=stg L 13 w.drew W1:=hI.1.trans (qa8 _ _ n2);have ec:w8.cell? ⟨p,0,none⟩=some (pq g 0):=by rw[hw];exact qb8 (fun w:World=>cl w p 0 (pq g 0:Value)) HF.o.2.1 HF.o.2.2.2.2.1
    have hI2:=lh (And.intro hI (And.intro hls hw));clear hI hwt hun hun2 hcl hls n2 hw;change Made _ _ (Sem.run _ (execOp (Act.eval (frm _ _ _ [])) _) _);simp only[frm];go_simp;refine qa5 ⟨?_,hI2.out.1.2.put fun x hx=>by cases hx;rfl⟩;rw[qa3 _ _ (by decide),qa3 _ _ (by decide)];exact hI2.out.1.1
   ·have n2:L.getD 16 false=false:=hcl.nd hun2 (by kernel_rfl);have hw:w8=stg L 13 w.drew W1:=hI.1.trans (qa8 _ _ n2);have ec:w8.cell? ⟨p,0,none⟩=some (pq g 0):=by rw[hw];exact qb8 (fun w:World=>cl w p 0 (pq g 0:Value)) HF.o.2.1 HF.o.2.2.2.2.1
    have hI2:=lh (And.intro hI (And.intro hls hw));clear hI hwt hun hun2 hcl hls n2 hw;change Made _ _ (Sem.run _ (execOp (Act.eval (frm _ _ _ [])) _) _);simp only[frm];go_simp;refine qa5 ⟨?_,hI2.out.1.2.put fun x hx=>by cases hx;rfl⟩;rw[qa3 _ _ (by decide),qa3 _ _ (by decide)];exact hI2.out.1.1
   ·have h1:vs 1=pq g 0:=hI.2 1 _ rfl (hwt 1 (by kernel_rfl));have n2:L.getD 16 false=false:=hcl.nd hun2 (by kernel_rfl);have hw:w8=stg L 13 w.drew W1:=hI.1.trans (qa8 _ _ n2);have hI2:=lh (And.intro hI (And.intro hls hw));clear hI hwt hun hun2 hcl hls n2 hw;change Made _ _ (Sem.run _ (execOp (Act.eval (Act.put (frm _ _ _ []) (some 19) (vs 1))) _) _);simp only[frm,h1];go_simp;refine qa5 ⟨?_,hI2.out.1.2.put fun x hx=>by cases hx;rfl⟩;rw[qa3 _ _ (by decide),qa3 _ _ (by decide)];exact hI2.out.1.1
   ·have h2:vs 2=pq g 0:=hI.2 2 _ rfl (hwt 2 (by kernel_rfl));have n2:L.getD 16 false=false:=hcl.nd hun2 (by kernel_rfl);have hw:w8=stg L 13 w.drew W1:=hI.1.trans (qa8 _ _ n2);have hI2:=lh (And.intro hI (And.intro hls hw));clear hI hwt hun hun2 hcl hls n2 hw;change Made _ _ (Sem.run _ (execOp (Act.eval (Act.put (frm _ _ _ []) (some 20) (vs 2))) _) _);simp only[frm,h2];go_simp;refine qa5 ⟨?_,hI2.out.1.2.put fun x hx=>by cases hx;rfl⟩;rw[qa3 _ _ (by decide),qa3 _ _ (by decide)];exact hI2.out.1.1
   ·have h3:vs 3=pq g 0:=hI.2 3 _ rfl (hwt 3 (by kernel_rfl));have n2:L.getD 16 false=false:=hcl.nd hun2 (by kernel_rfl);have hw:w8=stg L 13 w.drew W1:=hI.1.trans (qa8 _ _ n2);have ec:w8.cell? ⟨g,0,none⟩=some (.slice (some ⟨b',o,none⟩) (t.length+1) c):=by rw[hw];exact qb8 (fun w:World=>cl w g 0 (.slice (some ⟨b',o,none⟩) (t.length+1) c:Value)) HF2.o.1 HF2.o.2
    have hI2:=lh (And.intro hI (And.intro hls hw));clear hI hwt hun hun2 hcl hls n2 hw;change Made _ _ (Sem.run _ (execOp (Act.eval (Act.put (frm _ _ _ []) (some 21) (vs 3))) _) _);simp only[frm,h3];go_simp;refine qa5 ⟨?_,hI2.out.1.2.put fun x hx=>by cases hx;rfl⟩;rw[qa3 _ _ (by decide),qa3 _ _ (by decide)];exact hI2.out.1.1
   ·have h4:vs 4=.slice (some ⟨b',o,none⟩) (t.length+1) c:=hI.2 4 _ rfl (hwt 4 (by kernel_rfl));have n2:L.getD 16 false=false:=hcl.nd hun2 (by kernel_rfl);have hw:w8=stg L 13 w.drew W1:=hI.1.trans (qa8 _ _ n2);have hcn:¬ c=1:=hc1;have hc2:¬ 1=c:=fun e=>hc1 e.symm;have hle9:1≤t.length+1:=by omega
    have hle8:(1:Int)≤(t.length:Int)+1:=by omega
    have hI2:=lh (And.intro hI (And.intro hls hw));clear hI hwt hun hun2 hcl hls n2 hw;change Made _ _ (Sem.run _ (execOp (Act.eval (Act.put (frm _ _ _ []) (some 22) (vs 4))) _) _);simp only[frm,h4];go_simp;refine qa5 ⟨?_,hI2.out.1.2.put fun x hx=>by cases hx;rfl⟩;rw[qa3 _ _ (by decide),qa3 _ _ (by decide)];exact hI2.out.1.1
   ·have h5:vs 5=pq b' o:=hI.2 5 _ rfl (hwt 5 (by kernel_rfl));have n2:L.getD 16 false=false:=hcl.nd hun2 (by kernel_rfl);have hw:w8=stg L 13 w.drew W1:=hI.1.trans (qa8 _ _ n2);have ec:w8.cell? ⟨b',o,none⟩=some (.int .u8 x):=by rw[hw];exact qb8 (fun w:World=>cl w b' o (.int .u8 x:Value)) HF.o.2.2.1 HF.o.2.2.2.2.2.1
    have hI2:=lh (And.intro hI (And.intro hls hw));clear hI hwt hun hun2 hcl hls n2 hw;change Made _ _ (Sem.run _ (execOp (Act.eval (Act.put (frm _ _ _ []) (some 23) (vs 5))) _) _);simp only[frm,h5];go_simp;refine qa5 ⟨?_,hI2.out.1.2.put fun x hx=>by cases hx;rfl⟩;rw[qa3 _ _ (by decide),qa3 _ _ (by decide)];exact hI2.out.1.1
   ·have h6:vs 6=.int .u8 x:=hI.2 6 _ rfl (hwt 6 (by kernel_rfl));have n2:L.getD 16 false=false:=hcl.nd hun2 (by kernel_rfl);have hw:w8=stg L 13 w.drew W1:=hI.1.trans (qa8 _ _ n2);have hXX:(x == 1)=X:=by rw[HX.o];rfl
    have hI2:=lh (And.intro hI (And.intro hls hw));clear hI hwt hun hun2 hcl hls n2 hw;change Made _ _ (Sem.run _ (execOp (Act.eval (Act.put (frm _ _ _ []) (some 24) (vs 6))) _) _);simp only[frm,h6];go_simp;refine qa5 ⟨?_,hI2.out.1.2.put fun x hx=>by cases hx;rfl⟩;rw[qa3 _ _ (by decide),qa3 _ _ (by decide)];exact hI2.out.1.1
   ·have n2:L.getD 16 false=false:=hcl.nd hun2 (by kernel_rfl);have hw:w8=stg L 13 w.drew W1:=hI.1.trans (qa8 _ _ n2);have ec:w8.cell? ⟨p,0,none⟩=some (pq g 0):=by rw[hw];exact qb8 (fun w:World=>cl w p 0 (pq g 0:Value)) HF.o.2.1 HF.o.2.2.2.2.1
    have hI2:=lh (And.intro hI (And.intro hls hw));clear hI hwt hun hun2 hcl hls n2 hw;change Made _ _ (Sem.run _ (execOp (Act.eval (frm _ _ _ [])) _) _);simp only[frm];go_simp;refine qa5 ⟨?_,hI2.out.1.2.put fun x hx=>by cases hx;rfl⟩;rw[qa3 _ _ (by decide),qa3 _ _ (by decide)];exact hI2.out.1.1
   ·have h8:vs 8=pq g 0:=hI.2 8 _ rfl (hwt 8 (by kernel_rfl));have n2:L.getD 16 false=false:=hcl.nd hun2 (by kernel_rfl);have hw:w8=stg L 13 w.drew W1:=hI.1.trans (qa8 _ _ n2);have hI2:=lh (And.intro hI (And.intro hls hw));clear hI hwt hun hun2 hcl hls n2 hw;change Made _ _ (Sem.run _ (execOp (Act.eval (Act.put (frm _ _ _ []) (some 26) (vs 8))) _) _);simp only[frm,h8];go_simp;refine qa5 ⟨?_,hI2.out.1.2.put fun x hx=>by cases hx;rfl⟩;rw[qa3 _ _ (by decide),qa3 _ _ (by decide)];exact hI2.out.1.1
   ·have h9:vs 9=pq g 0:=hI.2 9 _ rfl (hwt 9 (by kernel_rfl));have n2:L.getD 16 false=false:=hcl.nd hun2 (by kernel_rfl);have hw:w8=stg L 13 w.drew W1:=hI.1.trans (qa8 _ _ n2);have hI2:=lh (And.intro hI (And.intro hls hw));clear hI hwt hun hun2 hcl hls n2 hw;change Made _ _ (Sem.run _ (execOp (Act.eval (Act.put (frm _ _ _ []) (some 27) (vs 9))) _) _);simp only[frm,h9];go_simp;refine qa5 ⟨?_,hI2.out.1.2.put fun x hx=>by cases hx;rfl⟩;rw[qa3 _ _ (by decide),qa3 _ _ (by decide)];exact hI2.out.1.1
   ·have h10:vs 10=pq g 0:=hI.2 10 _ rfl (hwt 10 (by kernel_rfl));have n2:L.getD 16 false=false:=hcl.nd hun2 (by kernel_rfl);have hw:w8=stg L 13 w.drew W1:=hI.1.trans (qa8 _ _ n2);have ec:w8.cell? ⟨g,0,none⟩=some (.slice (some ⟨b',o,none⟩) (t.length+1) c):=by rw[hw];exact qb8 (fun w:World=>cl w g 0 (.slice (some ⟨b',o,none⟩) (t.length+1) c:Value)) HF2.o.1 HF2.o.2
    have hI2:=lh (And.intro hI (And.intro hls hw));clear hI hwt hun hun2 hcl hls n2 hw;change Made _ _ (Sem.run _ (execOp (Act.eval (Act.put (frm _ _ _ []) (some 28) (vs 10))) _) _);simp only[frm,h10];go_simp;refine qa5 ⟨?_,hI2.out.1.2.put fun x hx=>by cases hx;rfl⟩;rw[qa3 _ _ (by decide),qa3 _ _ (by decide)];exact hI2.out.1.1
   ·have h11:vs 11=.slice (some ⟨b',o,none⟩) (t.length+1) c:=hI.2 11 _ rfl (hwt 11 (by kernel_rfl));have n2:L.getD 16 false=false:=hcl.nd hun2 (by kernel_rfl);have hw:w8=stg L 13 w.drew W1:=hI.1.trans (qa8 _ _ n2);have hcn:¬ c=1:=hc1;have hc2:¬ 1=c:=fun e=>hc1 e.symm;have hle9:1≤t.length+1:=by omega
    have hle8:(1:Int)≤(t.length:Int)+1:=by omega
    have hI2:=lh (And.intro hI (And.intro hls hw));clear hI hwt hun hun2 hcl hls n2 hw;change Made _ _ (Sem.run _ (execOp (Act.eval (Act.put (frm _ _ _ []) (some 29) (vs 11))) _) _);simp only[frm,h11];go_simp;refine qa5 ⟨?_,hI2.out.1.2.put fun x hx=>by cases hx;rfl⟩;rw[qa3 _ _ (by decide),qa3 _ _ (by decide)];exact hI2.out.1.1
   ·have h7:vs 7=.bool X:=hI.2 7 _ rfl (hwt 7 (by kernel_rfl));have n2:L.getD 16 false=false:=hcl.nd hun2 (by kernel_rfl);have hw:w8=w.drew:=hI.1.trans ((qa8 _ _ n2).trans (qa8 _ _ hun2));subst hw;have es:=HF.o.2.2.2.2.2.2.1;have ef:=HF.o.2.2.2.2.2.2.2.1;have hI2:=lh (And.intro hI (And.intro hls n2));clear hI hwt hun hun2 hcl hls n2;change Made _ _ (Sem.run _ (execOp (Act.eval (Act.put (frm _ _ _ []) (some 25) (vs 7))) _) _);simp only[frm,h7];go_simp;refine qa7 ⟨?_,hI2.out.1.2.put fun x hx=>by cases hx⟩;rw[qa3 _ _ (by decide),qa8 _ _ hI2.out.2.2,qj5 _ _ (by rw[hI2.out.2.1];decide)];exact HW1.o.symm
   ·have h0:vs 0=pq g 0:=hI.2 0 _ rfl (hwt 0 (by kernel_rfl));have n15_:L.getD 15 false=false:=hcl.nd hun2 (by kernel_rfl);have n2:L.getD 16 false=false:=hcl.nd n15_ (by kernel_rfl);have hw:w8=stg L 13 w.drew W1:=hI.1.trans (qa8 _ _ n2);have hI2:=lh (And.intro hI (And.intro hls hw));clear hI hwt hun hun2 hcl hls n2 hw;change Made _ _ (Sem.run _ (execOp (Act.eval (Act.put (frm _ _ _ []) (some 18) (vs 0))) _) _);simp only[frm,h0];go_simp;refine qa5 ⟨?_,hI2.out.1.2.put fun x hx=>by cases hx;rfl⟩;rw[qa3 _ _ (by decide),qa3 _ _ (by decide)];exact hI2.out.1.1
   ·have h14:vs 14=pq g 0:=hI.2 14 _ rfl (hwt 14 (by kernel_rfl));have n2:L.getD 16 false=false:=hcl.nd hun2 (by kernel_rfl);have hw:w8=stg L 13 w.drew W1:=hI.1.trans (qa8 _ _ n2);have hI2:=lh (And.intro hI (And.intro hls hw));clear hI hwt hun hun2 hcl hls n2 hw;change Made _ _ (Sem.run _ (execOp (Act.eval (Act.put (frm _ _ _ []) (some 31) (vs 14))) _) _);simp only[frm,h14];go_simp;refine qa5 ⟨?_,hI2.out.1.2.put fun x hx=>by cases hx;rfl⟩;rw[qa3 _ _ (by decide),qa3 _ _ (by decide)];exact hI2.out.1.1
   ·have h12:vs 12=.slice (some ⟨b',o+1,none⟩) t.length (c - 1):=hI.2 12 _ rfl (hwt 12 (by kernel_rfl));have h15:vs 15=pq g 0:=hI.2 15 _ rfl (hwt 15 (by kernel_rfl));have hw:w8=W1:=hI.1.trans ((qa8 _ _ hun2).trans (qh0 _ _ (hwt 13 (by kernel_rfl))));subst hw;have es:=HF2.o.2;have ef:=HF.o.2.2.2.2.2.2.2.2;have hI2:=lh (And.intro hI hls);clear hI hwt hun hun2 hcl hls;change Made _ _ (Sem.run _ (execOp (Act.eval (Act.put (Act.put (frm _ _ _ []) (some 32) (vs 15)) (some 30) (vs 12))) _) _);simp only[frm,h12,h15];go_simp;refine qa7 ⟨?_,hI2.out.1.2.put fun x hx=>by cases hx⟩;rw[qj5 _ _ (by rw[hI2.out.2];decide)];exact HW2.o.symm
  ·intro L vs w8 hls hall hI;have hw:w8=W2:=hI.1.trans (qh0 _ _ (hall 16 (by decide)));have h0:vs 0=pq g 0:=hI.2 0 _ rfl (hall 0 (by decide));have h1:vs 1=pq g 0:=hI.2 1 _ rfl (hall 1 (by decide));have h2:vs 2=pq g 0:=hI.2 2 _ rfl (hall 2 (by decide));have h3:vs 3=pq g 0:=hI.2 3 _ rfl (hall 3 (by decide));have h4:vs 4=.slice (some ⟨b',o,none⟩) (t.length+1) c:=hI.2 4 _ rfl (hall 4 (by decide));have h5:vs 5=pq b' o:=hI.2 5 _ rfl (hall 5 (by decide));have h6:vs 6=.int .u8 x:=hI.2 6 _ rfl (hall 6 (by decide));have h7:vs 7=.bool X:=hI.2 7 _ rfl (hall 7 (by decide));have h8:vs 8=pq g 0:=hI.2 8 _ rfl (hall 8 (by decide));have h9:vs 9=pq g 0:=hI.2 9 _ rfl (hall 9 (by decide));have h10:vs 10=pq g 0:=hI.2 10 _ rfl (hall 10 (by decide));have h11:vs 11=.slice (some ⟨b',o,none⟩) (t.length+1) c:=hI.2 11 _ rfl (hall 11 (by decide));have h12:vs 12=.slice (some ⟨b',o+1,none⟩) t.length (c - 1):=hI.2 12 _ rfl (hall 12 (by decide));have h14:vs 14=pq g 0:=hI.2 14 _ rfl (hall 14 (by decide));have h15:vs 15=pq g 0:=hI.2 15 _ rfl (hall 15 (by decide));change wpList _ _ _ [] (Act.put (Act.put (Act.put (Act.put (Act.put (Act.put (Act.put (Act.put (Act.put (Act.put (Act.put (Act.put (Act.put (Act.put (Act.put (Act.put (Act.put (frm _ _ _ []) none (vs 16)) (some 32) (vs 15)) (some 31) (vs 14)) none (vs 13)) (some 30) (vs 12)) (some 29) (vs 11)) (some 28) (vs 10)) (some 27) (vs 9)) (some 26) (vs 8)) (some 25) (vs 7)) (some 24) (vs 6)) (some 23) (vs 5)) (some 22) (vs 4)) (some 21) (vs 3)) (some 20) (vs 2)) (some 19) (vs 1)) (some 18) (vs 0)) _;simp only[frm,h0,h1,h2,h3,h4,h5,h6,h7,h8,h9,h10,h11,h12,h14,h15];generalize vs 13=vz13;generalize vs 16=vz16;rw[hw];clear hw hI hall hls h0 h1 h2 h3 h4 h5 h6 h7 h8 h9 h10 h11 h12 h14 h15;have HT8:Hid (B8 t):=lh fun y hy=>H.o.b8 y (by simp[hy])
   have HSD:Hid (Sl W2 1 (some ⟨b',o+1,none⟩) t.length (qh2 t)):=lh (by
    refine⟨by rw[qm6,Nat.mul_one],.inr ⟨b',o+1,rfl,Nat.lt_of_lt_of_le HC.o.1 (by rw[HW2.o,HW1.o];simp),fun j y hy=>?_⟩⟩;rw[HW2.o,HW1.o];have h2:=HC.o.2 (1+j) y (by rw[show 1+j=j+1 by omega];exact hy);rw[show o+(1+j)=o+1+j by omega] at h2;refine(World.cell?_of_block (a:=⟨b',o+1+j,none⟩) ?_).trans h2
    exact(Below.heap_setCell _ _ _ _ (fun e=>H.o.ne e)).trans (Below.heap_setCell _ _ _ _ (fun e=>hsb e.symm)))
   have HK2:Hid (Kp (fun k=>k=g ∨ k=s) w W2):=lh (by rw[HW2.o];exact(HB1.o.2.2.mono (T:=fun k=>k=g ∨ k=s) fun _ _ h=>.inr h).trans (Kp.setCell (S:=fun k=>k=g) _ ⟨g,0,none⟩ _ rfl) fun _ _ h=>.inl h);have HS2:Hid (Bk W2 s 4 #[.bool X]):=lh (by rw[HW2.o];exact HB1.o.2.1.far (p:=⟨g,0,none⟩) (fun e=>HNE.o.1 e.symm) _);clear HF HF2
   go_wp2_with fail
   go_ret;exact⟨rfl,⟨some ⟨b',o+1,none⟩,c - 1,⟨by rw[HW2.o];exact HB1.o.1.set 0 _,by have:=H.o.cap;dsimp only at this ⊢;rw[List.length_cons] at this;omega,by omega,HSD.o,fun b o m e=>(by cases e;exact⟨rfl,rfl⟩),fun e=>(by cases e),H.o.ne,HT8.o⟩⟩,by have h9:=HS2.o;rw[HX.o] at h9;exact h9,HK2.o⟩
end
end
section
open Go.RowKit
attribute [local go_sem] Oper.semAt_some
theorem Kp.boxed_kp {w w4 w1:World} {g q:Nat} (hb:Kp (fun k=>k=g) w w4) (hk:Kp (fun k=>k=g ∨ k=q) w4 w1) (hq:w.heap.size≤q):Kp (fun k=>k=g) w w1:=hb.trans hk fun k hk h=>h.resolve_right (by omega)
section
variable {w:World} {g bb:Nat} {r:Rd}
theorem Bool_any (h:RdX w g bb r) (hbb:bb < w.heap.size):Calls Tryz.prog 128 #[pq g 0] w (RdP w g bb (.bool r.bool.1) r.bool.2):=by
 obtain⟨A,c,h⟩:=h;obtain⟨b,e⟩:=r;have HG:Hid (w.heap.size+1≠g):=lh (by have:=h.lt;omega)
 obtain⟨w2,hw2⟩:∃ w2,w2=(w.alloc (.cells #[pq g 0] 79)).alloc (.cells #[bf] 4):=⟨_,rfl⟩
 have hb2:bw w w2:=by rw[hw2];exact((Below.refl _ _).alloc (Nat.le_refl _) _).alloc (by simp) _
 have hp:Bk w2 w.heap.size 79 #[pq g 0]:=by rw[hw2];exact Bk.alloc (Bk.new _ _ _) _
 have hq:Bk w2 (w.heap.size+1) 4 #[bf]:=by rw[hw2];exact Bk.here _ _ _ (by simp)
 have h2:=h.below hb2;have HB2:=lh hb2;have q0:cl w2 (w.heap.size+1) 0 (bf):=hq.cell 0;have p0:cl w2 w.heap.size 0 (pq g 0):=hp.cell 0
 by_cases he:e=0
 ·subst he
  by_cases hn:b=[] ∨ ∃ x t,b=x::t∧1 < x
  ·have cT:=qp1 (fid:=160) (caps:=#[pq w.heap.size 0,.pointer (some ⟨w.heap.size+1,0,none⟩)]) qt7 h2 (by decide) (Bool1_no h2 hp hn)
   have HU:Hid ((Rd.mk b 0).bool=(false,Rd.bad 11)):=lh (by
    unfold Rd.bool;rw[if_neg (by simp)];rcases hn with rfl | ⟨x,t,rfl,hx⟩
    ·rfl
    ·dsimp only;rw[if_pos hx])
   clear h h2 hp hq hb2 hn
   go_enter Tryz.func128,Tryz.ntmps128
   go_upto_region 2 with fail
   rw[← hw2];clear hw2;have Q0:=lh q0;clear q0
   go_wp2_with fail
   refine cT.mono ?_;rintro e w3 ⟨rfl,hx,hk⟩;have HX:=lh hx;have HK:=lh hk;have q3:cl w3 (w.heap.size+1) 0 (bf):=hk.cell Q0.o HG.o;clear cT hx hk
   go_wp2_with fail
   go_ret;rw[HU.o];exact⟨rfl,HX.o,(Kp.of_below HB2.o).trans HK.o fun _ _ h=>h⟩
  ·obtain⟨x,t,rfl⟩:∃ x t,b=x::t:=by
    cases b with
    | nil=>exact absurd (.inl rfl) hn
    | cons x t=>exact⟨x,t,rfl⟩
   have hx1:x≤1:=by
    by_cases h1:1 < x
    ·exact absurd (.inr ⟨x,t,rfl,h1⟩) hn
    ·omega
   have cT:=try_ok (fid:=160) (caps:=#[pq w.heap.size 0,.pointer (some ⟨w.heap.size+1,0,none⟩)]) qt7 h2 (Bool1_ok h2 hp hq (by omega) hx1)
   have HU:Hid ((Rd.mk (x::t) 0).bool=(decide (x=1),⟨t,0⟩)):=lh (by
    unfold Rd.bool;rw[if_neg (by simp)];dsimp only
    rw[if_neg (by omega)])
   clear h h2 hp hq hb2 hn q0 hx1
   go_enter Tryz.func128,Tryz.ntmps128
   go_upto_region 2 with fail
   rw[← hw2];clear hw2
   go_wp2_with fail
   refine cT.mono ?_;rintro e w3 ⟨rfl,hx,hq3,hk⟩;have HX:=lh hx;have HK:=lh hk;have q3:cl w3 (w.heap.size+1) 0 (.bool (decide (x=1))):=hq3.cell 0;clear cT hx hk hq3
   go_wp2_with fail
   go_ret;rw[HU.o];exact⟨rfl,HX.o,Kp.boxed HB2.o HK.o (by omega)⟩
 ·have cT:=try_no h2 he (.func (.func 160) #[] #[pq w.heap.size 0,.pointer (some ⟨w.heap.size+1,0,none⟩)]);have HU:Hid ((Rd.mk b e).bool=(false,⟨b,e⟩)):=lh (by unfold Rd.bool;rw[if_pos he]);have HX:Hid (RdX w2 g bb ⟨b,e⟩):=lh ⟨A,c,h2⟩;clear h h2 hp hq hb2 he
  go_enter Tryz.func128,Tryz.ntmps128
  go_upto_region 2 with fail
  rw[← hw2];clear hw2
  go_wp2_with fail
  refine cT.mono ?_;rintro e' w3 ⟨rfl,rfl⟩;clear cT
  go_wp2_with fail
  go_ret;rw[HU.o];exact⟨rfl,HX.o,Kp.of_below HB2.o⟩
end
section
variable {w:World} {g bb:Nat} {r:Rd}
theorem String_any (h:RdX w g bb r) (hbb:bb < w.heap.size):Calls Tryz.prog 112 #[pq g 0] w (RdP w g bb (.string (r.text 4096).1) (r.text 4096).2):=by
 obtain⟨w2,hw2⟩:∃ w2,w2=w.alloc (.cells #[pq g 0] 79):=⟨_,rfl⟩
 have hb2:bw w w2:=by rw[hw2];exact(Below.refl _ _).alloc (Nat.le_refl _) _
 have hsz:w2.heap.size=w.heap.size+1:=by rw[hw2];simp
 have hp:Bk w2 w.heap.size 79 #[pq g 0]:=by rw[hw2];exact Bk.new _ _ _
 have cU:=qr6 (h.below hb2) (by omega);have hrg:=Rd.u_rg h.b8;have HCT:Hid (r.text 4096=if r.u.2.e≠0 then (⟨#[]⟩,r.u.2) else if 4096 < r.u.1 then (⟨#[]⟩,Rd.bad 8) else if (r.u.2.b.length:Int) < r.u.1 then (⟨#[]⟩,Rd.bad 11) else (txt (r.u.2.b.take r.u.1.toNat),⟨r.u.2.b.drop r.u.1.toNat,0⟩)):=lh rfl
 have HG:Hid (w.heap.size≠g∧g < w.heap.size∧bb < w.heap.size):=lh (by
  obtain⟨A,c,h⟩:=h;have:=h.bk.lt
  omega)
 obtain⟨u,hu⟩:∃ u,u=r.u:=⟨_,rfl⟩
 rw[← hu] at cU hrg HCT;obtain⟨n,⟨b,e⟩⟩:=u;dsimp only at cU hrg HCT;have p0:cl w2 w.heap.size 0 (pq g 0):=hp.cell 0;have HP:=lh hp;have HB2:=lh (And.intro hb2 hsz);have HRG:=lh hrg;clear h hu hp hb2 hsz hrg
 go_enter Tryz.func112,Tryz.ntmps112
 go_upto_region 1 with fail
 rw[← hw2];clear hw2
 go_wp2_with fail
 refine cU.mono ?_;rintro e' w3 ⟨rfl,hx,hk⟩
 obtain⟨w4,hw4⟩:∃ w4,w4=(w3.alloc (.cells #[uv n] 22)).alloc (.cells #[.string ⟨#[]⟩] 9):=⟨_,rfl⟩
 obtain⟨q,hq⟩:∃ q,q=w3.heap.size:=⟨_,rfl⟩
 have hb4:bw w3 w4:=by rw[hw4];exact((Below.refl _ _).alloc (Nat.le_refl _) _).alloc (by simp) _
 have hqk:Bk w4 q 22 #[uv n]:=by rw[hw4,hq];exact Bk.alloc (Bk.new _ _ _) _
 have hsk:Bk w4 (q+1) 9 #[.string ⟨#[]⟩]:=by rw[hw4,hq];exact Bk.here _ _ _ (by simp)
 have hp3:=HP.o.kp hk HG.o.1;have hp4:=hp3.below hb4 hp3.lt;have hq1:w.heap.size < q:=by rw[hq];exact Nat.lt_of_lt_of_le (by rw[HB2.o.2];omega) hk.size
 have HX4:=hx.below hb4;have HK4:Hid (Kp (fun k=>k=g) w w4):=lh ((Kp.of_below HB2.o.1).trans (hk.trans (Kp.of_below (S:=fun k=>k=g) hb4) fun _ _ h=>h) fun _ _ h=>h);have HQ:Hid (q+1≠g∧q+1≠bb∧w.heap.size≤q+1):=lh (by have:=HG.o;omega);clear cU hx hk p0 hp3 hb4 hq1
 go_upto_region 2 with fail
 rw[← hw4,← hq];have p4:cl w4 w.heap.size 0 (pq g 0):=hp4.cell 0;have HS4:Hid (cl w4 (q+1) 0 (.string ⟨#[]⟩)):=lh (hsk.cell 0);clear hw4 hq;obtain⟨A,c,h4⟩:=HX4;have H4:=lh h4
 by_cases he:e=0
 ·subst he
  by_cases hm:4096 < n
  ·have cT:=qp1 (fid:=156) (caps:=#[pq q 0,pq w.heap.size 0,.pointer (some ⟨q+1,0,none⟩)]) qk7 h4 (by decide) (String1_big hqk hm);rw[if_neg (by simp),if_pos hm] at HCT;clear h4 hp4 hsk hqk hm
   go_wp2_with fail
   refine cT.mono ?_;rintro e w5 ⟨rfl,hx,hk⟩;have HX:=lh (And.intro hx (HK4.o.trans hk fun _ _ h=>h));have s5:cl w5 (q+1) 0 (.string ⟨#[]⟩):=hk.cell HS4.o HQ.o.1;clear cT hx hk
   go_wp2_with fail
   go_ret;rw[HCT.o];exact⟨rfl,HX.o.1,HX.o.2⟩
  ·by_cases hl:(b.length:Int) < n
   ·have cT:=qp1 (fid:=156) (caps:=#[pq q 0,pq w.heap.size 0,.pointer (some ⟨q+1,0,none⟩)]) qk7 h4 (by decide) (String1_bad h4 hqk hp4 (by omega) hl);rw[if_neg (by simp),if_neg (by omega),if_pos hl] at HCT;clear h4 hp4 hsk hqk hm hl
    go_wp2_with fail
    refine cT.mono ?_;rintro e w5 ⟨rfl,hx,hk⟩;have HX:=lh (And.intro hx (HK4.o.trans hk fun _ _ h=>h));have s5:cl w5 (q+1) 0 (.string ⟨#[]⟩):=hk.cell HS4.o HQ.o.1;clear cT hx hk
    go_wp2_with fail
    go_ret;rw[HCT.o];exact⟨rfl,HX.o.1,HX.o.2⟩
   ·obtain⟨N,rfl⟩:=Int.eq_ofNat_of_zero_le HRG.o.1;have cT:=try_ok (fid:=156) (caps:=#[pq q 0,pq w.heap.size 0,.pointer (some ⟨q+1,0,none⟩)]) qk7 h4 (String1_ok h4 hqk hp4 hsk HQ.o.2.1 (by omega) (by omega));rw[if_neg (by simp),if_neg (by omega),if_neg hl,Int.toNat_natCast] at HCT;clear h4 hp4 hsk hqk hm hl
    go_wp2_with fail
    refine cT.mono ?_;rintro e w5 ⟨rfl,hx,hs,hk⟩;have HX:=lh (And.intro hx (Kp.boxed_kp HK4.o hk HQ.o.2.2));have s5:cl w5 (q+1) 0 (.string (txt (b.take N))):=hs.cell 0;clear cT hx hk hs
    go_wp2_with fail
    go_ret;rw[HCT.o];exact⟨rfl,HX.o.1,HX.o.2⟩
 ·have cT:=try_no h4 he (.func (.func 156) #[] #[pq q 0,pq w.heap.size 0,.pointer (some ⟨q+1,0,none⟩)]);rw[if_pos he] at HCT;have s4:=HS4.o;clear h4 hp4 hsk hqk he
  go_wp2_with fail
  refine cT.mono ?_;rintro e' w5 ⟨rfl,rfl⟩;clear cT
  go_wp2_with fail
  go_ret;rw[HCT.o];exact⟨rfl,⟨A,c,H4.o⟩,HK4.o⟩
theorem Done_any (h:RdX w g bb r):Calls Tryz.prog 35 #[pq g 0] w fun e w1=>e=.returned (iv (if r.e=0∧r.b≠[] then 11 else r.e))∧w=w1:=by
 obtain⟨A,c,h⟩:=h;have c1:cl w g 1 (iv r.e):=h.bk.cell 1;have c0:cl w g 0 (.slice A r.b.length c):=h.bk.cell 0;obtain⟨b,e⟩:=r;dsimp only at c0 c1 ⊢;clear h
 by_cases he:e=0
 ·subst he
  cases b with
  | nil =>
   go_enter Tryz.func35,Tryz.ntmps35
   go_wp2_with fail
   all_goals (go_ret;exact⟨rfl,rfl⟩)
  | cons x t =>
   rw[List.length_cons] at c0;have d0:decide (((t.length:Int)+1) > 0)=true:=decide_eq_true (by omega)
   go_enter Tryz.func35,Tryz.ntmps35
   go_wp2_with fail
   all_goals (go_ret;exact⟨rfl,rfl⟩)
 ·have d0:(e == 0)=false:=by simpa using he
  rw[if_neg (fun h=>he h.1)]
  go_enter Tryz.func35,Tryz.ntmps35
  go_wp2_with fail
  go_ret;exact⟨rfl,rfl⟩
end
end
section
open Go.RowKit
attribute [local go_sem] Oper.semAt_some
section
variable {w:World} {b:List Int}
theorem byts_one (l:List Int):∀ u∈qh2 l,u.oneCell'=true:=fun u hu=>by
 obtain⟨x,_,rfl⟩:=List.mem_map.1 hu
 rfl
theorem bClone_any {A:Option Addr} {c:Nat} (h:Sl w 1 A b.length (qh2 b)) (hl:b.length≤4294967297) :
  Calls Tryz.prog 49 #[.slice A b.length c] w fun e w'=>∃ v,e=.returned v∧w'.ownsRow w.heap.size 5 1 v b.length (qh2 b)∧bw w w':=by
 cases A with
 | none =>
  have hl0:b.length=0:=by
   rcases h.2 with h | ⟨_,_,h,_⟩
   ·exact h
   ·cases h
  obtain rfl:b=[]:=List.length_eq_zero_iff.1 hl0;clear h hl hl0
  go_enter Tryz.func49,Tryz.ntmps49
  have q:=fun w n c=>Lib.run_eql_slice_nil w 45 _ none n c 0 0 Tryz.underlying45
  go_wp2_with fail
  go_ret;exact⟨_,rfl,World.ownsRow_nil _ _ _ _,Below.refl _ _⟩
 | some ad =>
  obtain⟨i0,hi,hz0,hz1,hz2⟩:=info_parts i_u8;have HI:=lh (And.intro hi (And.intro hz0 (And.intro hz1 hz2)));have hbe:bw w (w.alloc (.cells #[] 5)):=(Below.refl _ _).alloc (Nat.le_refl _) _;have HBE:=lh hbe;have hwe:(w.alloc (.cells #[] 5)).ownsRow w.heap.size 5 1 (.slice (some ⟨w.heap.size,0,none⟩) 0 0) 0 []:=ownEmpty 1 (Bk.new _ _ _) (Nat.le_refl _);have HWE:=lh hwe;have HS:=lh h;clear h hi hz0 hz1 hz2 hbe hwe;have q:=fun w n c=>Lib.run_eql_slice_nil w 45 _ (some ad) n c 0 0 Tryz.underlying45
  go_enter Tryz.func49,Tryz.ntmps49
  go_wp2_with (at_builtin;refine wpList_app rfl (.tmp 5) (.tmp 6) 45 rfl Tryz.underlying45 HI.o.1 HI.o.2.1 HI.o.2.2.1 HI.o.2.2.2 rfl (by decide) (n:=0) (xs:=[]) rfl HWE.o (A:=some ad) (m:=b.length) (c:=c) (news:=qh2 b) rfl (HS.o.below HBE.o) (byts_one _) (by unfold maxLen;omega) (by omega) (by simp) ?_;intro v2 w2 ho2 hg2 h42;simp only[Nat.zero_add,List.nil_append] at ho2;have HO2:=lh ho2;have HB2:Hid (bw w w2):=lh (HBE.o.grown hg2 (by simp) (fun k hk=>by cases hk;exact Nat.le_refl _));clear ho2 hg2 h42)
  go_ret;exact⟨_,rfl,HO2.o,HB2.o⟩
/-- a row of one's own, boxed into a reader -/
theorem RdX.boxed {B g:Nat} {A:Option Addr} {c:Nat} (h:w.ownsRow B 5 1 (.slice A b.length c) b.length (qh2 b)) (hg:Bk w g 103 #[.slice A b.length c,iv 0]) (h8:B8 b) (hB:0 < g) (hA:∀ a,A=some a→a.block < g):∃ bb,bb < g∧RdX w g bb ⟨b,0⟩:=by
 have hs:=own_sl h;rcases h.2 with ⟨e,h0⟩ | ⟨k,cap,cur,e,h3,h4,h5,h6,_⟩
 ·injection e with e1 e2 e3
  subst e1 e3;exact⟨0,hB,none,0,hg,by dsimp only;omega,Nat.zero_le _,hs,fun b o m e=>(by cases e),fun _=>rfl,by omega,h8⟩
 ·injection e with e1 e2 e3
  subst e1 e3;have hk:=hA _ rfl;exact⟨k,hk,_,c,hg,h5,by unfold maxLen at h6;omega,hs,fun b o m e=>(by cases e;exact⟨rfl,rfl⟩),fun e=>(by cases e),by dsimp only at hk;omega,h8⟩
theorem NewReader_any {A:Option Addr} {c:Nat} (h:Sl w 1 A b.length (qh2 b)) (h8:B8 b) (hl:b.length≤4294967297) (hw:0 < w.heap.size) :
  Calls Tryz.prog 33 #[.slice A b.length c] w fun e w'=>∃ g bb,e=.returned (pq g 0)∧bb < g∧w.heap.size≤g∧RdX w' g bb ⟨b,0⟩∧bw w w':=by
 have cC:=bClone_any (c:=c) h hl;have HH:=lh (And.intro h8 hw);clear h h8 hw
 go_enter Tryz.func33,Tryz.ntmps33
 go_wp2_with fail
 refine cC.mono ?_;rintro e w1 ⟨v,rfl,ho,hb⟩;obtain⟨A1,c1,rfl,hle⟩:=qc1 ho;have HO:=lh (And.intro ho hb);clear cC ho hb
 go_wp2_with fail
 go_ret
 have hk:∀ a,A1=some a→a.block < w1.heap.size:=fun a ha=>by
  subst ha;exact(HO.o.1.lt _ rfl).2
 have hbk:Bk (w1.alloc (.cells #[.slice A1 b.length c1,iv 0] 103)) w1.heap.size 103 #[.slice A1 b.length c1,iv 0]:=Bk.new _ _ _;obtain⟨bb,h1,h2⟩:=RdX.boxed (w:=w1.alloc (.cells #[.slice A1 b.length c1,iv 0] 103)) (qj8 HO.o.1 fun k hk=>Below.heap_alloc _ _ k (HO.o.1.lt k hk).2) hbk HH.o.1 (by have:=HO.o.2.size;have:=HH.o.2;omega) hk;exact⟨_,bb,rfl,h1,HO.o.2.size,h2,HO.o.2.alloc (HO.o.2.size) _⟩
end
end
section
open Go.RowKit
attribute [local go_sem] Oper.semAt_some
theorem byts_bts (s:ByteArray):qh2 (bts s)=Lib.byteCells s.data.toList:=by unfold qh2 bts Lib.byteCells;rw[List.map_map];rfl
def GrP (g L n:Nat) (cur:Array Value) (w:World) (e:Ending) (w':World):Prop:=∃ g2 cap2 cur2,e=.returned (.slice (some ⟨g2,0,none⟩) L cap2)∧Bk w' g2 5 cur2∧L+n≤cap2∧cap2≤maxLen∧cur2.size=cap2∧cur2.toList.take L=cur.toList.take L∧(g2=g ∨ g2=w.heap.size)∧bw w w'
theorem Grow_any {w:World} {g L n cap:Nat} {cur:Array Value} (hg:Bk w g 5 cur) (hL:L≤cap) (hcm:cap≤maxLen) (hcs:cur.size=cap) (hn:L+n≤70368744177664):Calls Tryz.prog 157 #[.slice (some ⟨g,0,none⟩) L cap,iv (n:Int)] w (GrP g L n cur w):=by
 have hcm':=hcm;unfold maxLen at hcm'
 by_cases hr:L+n≤cap
 ·refine(Any8.slices_Grow_room Tryz.growB (some ⟨g,0,none⟩) L cap n w hL (by omega) (by omega) hr).mono ?_;rintro e w' ⟨rfl,rfl⟩;exact⟨g,cap,cur,rfl,hg,hr,hcm,hcs,rfl,.inl rfl,Below.refl _ _⟩
 ·obtain⟨i0,hi,hz0,hz1,hz2⟩:=info_parts i_u8
  have h:=Any8.slices_Grow_grow Tryz.growB i0 (.int .u8 0) hi hz0 (by rw[hz1];decide) (some ⟨g,0,none⟩) L cap n cur.toList w hL (by omega) (by rw[hz2];omega) (by omega) (by rw[hz1];simp[hcs]) (by simp) (fun a ha j v hv=>by
   cases ha;have:=hg.cell j;rw[show(⟨g,0,none⟩:Addr).add j=⟨g,j,none⟩ by simp[Addr.add];exact fun h=>h.symm,this]
   simpa using hv)
  refine h.mono ?_;rintro e w' ⟨rfl,rfl⟩;have hG:=grownCap_ge w (L+n) cap 5;have hG2:=grownCap_le_maxLen w (L+n) cap 5 (by unfold maxLen;omega);refine⟨w.heap.size,grownCap w (L+n) cap 5,_,rfl,Bk.new _ _ _,hG,hG2,?_,?_,.inr rfl,(Below.drew (Below.refl _ _)).alloc (Nat.le_refl _) _⟩
  ·simp[size_zeroCells,hcs]
   have e1:(Value.int IntKind.u8 0).cells.size=1:=rfl;have e2:Tryz.growB_ren.t 25=5:=rfl;rw[e1,e2]
   omega
  ·simp only[Array.toList_append];rw[List.append_assoc,List.take_append_of_le_length (by simp;omega)]
section
variable {w:World} {B c:Nat} {A:Option Addr} {l:List Int}
theorem qq6 {s:ByteArray} (ho:w.ownsRow B 5 1 (.slice A l.length c) l.length (qh2 l)) (hB:B≤w.heap.size) (hs:s.size≤4294967296) (hl:l.length≤4294967296):Calls Tryz.prog 113 #[.slice A l.length c,.string s] w (ApP B w (.slice A l.length c) (l++qj9 s)):=by
 have cU:=qd5 ho hB (n:=(s.size:Int)) ⟨by omega,by omega⟩ hl;have hw0:IntKind.u64.wrap (s.size:Int)=(s.size:Int):=by rw[IntKind.wrap_u64];omega
 have HU:Hid ((l++qd8 (s.size:Int)).length≤4294967305∧0 < (l++qd8 (s.size:Int)).length):=lh (by
  have:=qh1 (n:=(s.size:Int)) (by omega);rw[List.length_append];refine⟨by omega,?_⟩;unfold qd8;rw[List.length_cons]
  omega)
 obtain⟨l1,hl1⟩:∃ l1,l1=l++qd8 (s.size:Int):=⟨_,rfl⟩
 rw[← hl1] at cU HU;have HL1:Hid (l++qj9 s=l1++bts s):=lh (by rw[hl1,List.append_assoc];rfl);clear ho hB hl hl1
 go_enter Tryz.func113,Tryz.ntmps113
 go_wp2_with fail
 refine cU.mono ?_;rintro e w1 ⟨v1,rfl,ho1,hk1,hv1⟩;obtain⟨hlen,⟨_,h0⟩ | ⟨g,cap,cur,rfl,hBg,hg,hnc,hcm,hcs,htk⟩⟩:=ho1
 ·have:=HU.o.2
  omega
 ·have hLb:=HU.o.1;have cG:=Grow_any (w:=w1) (g:=g) (L:=l1.length) (n:=s.size) (cap:=cap) (cur:=cur) hg hnc hcm (by simpa using hcs) (by omega);rw[Nat.mul_one] at htk;have H1:Hid (B≤g∧g < w1.heap.size∧cur.toList.take l1.length=qh2 l1∧Kp (fun k=>(Value.slice A l.length c).ownBlock=some k) w w1∧((Value.slice A l.length c).ownBlock=some g ∨ w.heap.size≤g)):=lh ⟨hBg,(Array.getElem?_eq_some_iff.1 hg).1,htk,hk1,hv1 g rfl⟩;clear hlen hBg hg hcs htk hk1 hv1 cU
  go_wp2_with fail
  refine cG.mono ?_;rintro e w2 ⟨g2,cap2,cur2,rfl,hg2,hroom,hcm2,hcs2,htk2,hor,hb2⟩
  have H2:Hid (B≤g2∧((Value.slice A l.length c).ownBlock=some g2 ∨ w.heap.size≤g2)∧cur2.toList.take l1.length=qh2 l1∧Kp (fun k=>(Value.slice A l.length c).ownBlock=some k) w w2):=lh (by
   have h:=H1.o;refine⟨?_,?_,htk2.trans h.2.2.1,h.2.2.2.1.trans (Kp.of_below (S:=fun _=>False) hb2) fun k _ hk=>hk.elim⟩
   ·rcases hor with e | e <;> rw[e] <;> omega
   ·rcases hor with e | e
    ·rw[e];exact h.2.2.2.2
    ·right;rw[e];exact h.2.2.2.1.size)
  have HG2:=lh hg2;have hcm2':=hcm2;unfold maxLen at hcm2' hcm
  have hrow:w2.ownsRow B 5 1 (.slice (some ⟨g2,0,none⟩) l1.length cap2) l1.length (qh2 l1):=⟨by rw[qm6,Nat.mul_one],.inr ⟨g2,cap2,cur2,rfl,H2.o.1,hg2,by omega,hcm2,by rw[hcs2,Nat.mul_one],by rw[Nat.mul_one];exact H2.o.2.2.1⟩⟩
  have HROW:=lh hrow;clear cG H1 htk2 hor hb2 hrow
  by_cases hn:s.size=0
  ·have hcp:∀ (d:Option Addr) (dl dc:Nat) (w:World),(Builtin.copy_ #[45,9] 3 #[.slice d dl dc,.string s]).run Tryz.prog w=.ok (goInt 0) w:=fun d dl dc w=>Lib.run_copy_empty_string w _ _ _ 5 d dl dc s Tryz.underlying45 (by kernel_rfl) hn;have HS:Hid (bts s=[]):=lh (List.length_eq_zero_iff.1 (by rw[qv2];exact hn));have hsum:wrap64 ((l1.length:Int)+(s.size:Int))=(l1.length:Int):=by unfold wrap64;omega
   by_cases hc:l1.length=cap2
   ·subst hc
    go_wp2_with fail
    go_ret;exact⟨_,rfl,by rw[HL1.o,HS.o,List.append_nil];exact HROW.o,H2.o.2.2.2,fun k hk=>by cases hk;exact H2.o.2.1⟩
   ·have hlt:l1.length < cap2:=by omega
    go_wp2_with fail
    go_ret;exact⟨_,rfl,by rw[HL1.o,HS.o,List.append_nil];exact HROW.o,H2.o.2.2.2,fun k hk=>by cases hk;exact H2.o.2.1⟩
  ·have hcp:∀ dc,(Builtin.copy_ #[45,9] 3 #[.slice (some ⟨g2,l1.length,none⟩) s.size dc,.string s]).run Tryz.prog w2=.ok (goInt s.size) (w2.setRow g2 (cur2.toList.take l1.length++Lib.byteCells s.data.toList++cur2.toList.drop (l1.length+s.size)).toArray):=fun dc=>Lib.run_copy_row_string w2 _ _ _ 5 g2 l1.length s.size dc s cur2 5 Tryz.underlying45 (by kernel_rfl) hg2 (Nat.le_refl _) (by omega);have hlt:l1.length < cap2:=by omega
   have hc:¬ l1.length=cap2:=by omega
   clear hg2
   go_wp2_with fail
   go_ret;refine⟨.slice (some ⟨g2,0,none⟩) (l1.length+s.size) cap2,rfl,?_,?_,fun k hk=>by cases hk;exact H2.o.2.1⟩
   ·rw[HL1.o,qr4,byts_bts,List.length_append,qv2];refine⟨by rw[List.length_append,qm6,Lib.byteCells_length,← Lib.size_eq,Nat.mul_one],.inr ⟨g2,cap2,_,rfl,H2.o.1,setRow_heap _ _ _ _ _ _ HG2.o,hroom,hcm2,?_,?_⟩⟩
    ·simp[Lib.byteCells_length,← Lib.size_eq]
     omega
    ·rw[Nat.mul_one,← H2.o.2.2.1];have e:(l1.length+s.size)=(cur2.toList.take l1.length++Lib.byteCells s.data.toList).length:=by simp[Lib.byteCells_length,← Lib.size_eq];omega
     conv=>lhs;rw[e]
     show List.take _ (_++(_++_))=_
     rw[← List.append_assoc,List.take_left]
   ·refine H2.o.2.2.2.trans (T:=fun k=>k=g2) ⟨rfl,rfl,rfl,by simp,fun k _ hk=>setRow_other _ _ _ _ hk⟩ fun k hk e=>?_;rcases H2.o.2.1 with h | h
    ·rw[e];exact h
    ·omega
end
end
section
open Go.RowKit
attribute [local go_sem] Oper.semAt_some
theorem row_ne {w:World} {B g n s:Nat} {e t:TypeId} {V:Value} {xs:List Value} {c:Array Value} (hl:w.ownsRow B e s V n xs) (h:Bk w g t c) (ht:t≠e):¬ V.ownBlock=some g:=fun he=>by
 obtain⟨_,⟨rfl,_⟩ | ⟨g2,cap,cur,rfl,_,h4,_⟩⟩:=hl
 ·cases he
 ·injection he with he
  change g2=g at he;rw[he] at h4;unfold Bk at h;rw[h] at h4
  injection h4 with h4
  injection h4 with _ h4
  exact ht h4
def EncP (w:World) (l:List Int) (e:Ending) (w':World):Prop:=∃ v,e=.returned v∧w'.ownsRow w.heap.size 5 1 v l.length (qh2 l)∧bw w w'
section
variable {S:Nat→Prop} {w w1 w2 w':World} {B:Nat}
theorem ql0 {base:Nat} {e:TypeId} {size n:Nat} {v:Value} {xs:List Value} (h:w.ownsRow base e size v n xs) (hk:Kp S w w') (hn:∀ k,v.ownBlock=some k→¬ S k):w'.ownsRow base e size v n xs:=qj8 h fun k he=>hk.block k (h.lt k he).2 (hn k he)
theorem own_below {base:Nat} {e:TypeId} {size n:Nat} {v:Value} {xs:List Value} (h:w.ownsRow base e size v n xs) (hb:bw w w'):w'.ownsRow base e size v n xs:=qj8 h fun k he=>hb.block k (h.lt k he).2
theorem Kp.belowTo (h:Kp S w w1) (hb:bw w1 w2):Kp S w w2:=h.trans (Kp.of_below (S:=S) hb) fun _ _ h=>h
end
section
variable {S:Nat→Prop} {w w':World} {base n size:Nat} {e:TypeId} {v:Value} {xs:List Value}
theorem own_kpT (h:w.ownsRow base e size v n xs) (hk:Kp S w w') (hS:∀ k,S k→∃ t cs,Bk w k t cs∧t≠e):w'.ownsRow base e size v n xs :=
 ql0 h hk fun k he hs=>let ⟨t,cs,hb,ht⟩:=hS k hs;row_ne h hb ht he
theorem qo0 {b':Nat} (h:w.ownsRow base e size v n xs) (hb:b'≤base):w.ownsRow b' e size v n xs:=by
 obtain⟨h1,h2 | ⟨g,cap,cur,rfl,h3,h4⟩⟩:=h
 ·exact⟨h1,.inl h2⟩
 ·exact⟨h1,.inr ⟨g,cap,cur,rfl,Nat.le_trans hb h3,h4⟩⟩
theorem own_le {A:Option Addr} {c:Nat} (h:w.ownsRow base e size (.slice A n c) n xs):n≤c:=by
 obtain⟨A',c',he,hl⟩:=qc1 h
 injection he with _ _ he
 omega
end
theorem Sl.one {w:World} (t:TypeId) (cs:Array Value) (hc:0 < cs.size):Sl (w.alloc (.cells cs t)) cs.size (some ⟨w.heap.size,0,none⟩) 1 cs.toList :=
 ⟨by rw[Nat.one_mul];simp,.inr ⟨_,0,rfl,by simp,fun j v hv=>by
  have hj:j < cs.size:=by have:=(List.getElem?_eq_some_iff.1 hv).1;simpa using this
  rw[Nat.zero_add,(Bk.new w t cs).cell j]
  simpa using hv⟩⟩
theorem own_bk {w:World} {base n size k:Nat} {e:TypeId} {v:Value} {xs:List Value} (h:w.ownsRow base e size v n xs) (hv:v.ownBlock=some k):∃ cs,Bk w k e cs:=by
 obtain⟨h1,⟨rfl,_⟩ | ⟨g,cap,cur,rfl,h3,h4,_⟩⟩:=h
 ·cases hv
 ·injection hv with hv
  change g=k at hv;subst hv;exact⟨cur,h4⟩
/-- cells of a row of structs -/
def Els {α:Type} (R:World→α→List Value→Prop) (s:Nat) (w:World) (l:List α) (xs:List Value):Prop :=
 ∃ rs:List (List Value),xs=rs.flatten∧rs.length=l.length∧∀ (i:Nat) x r,l[i]?=some x→rs[i]?=some r→r.length=s∧R w x r
section
variable {α:Type} {R:World→α→List Value→Prop} {s:Nat} {w w':World} {l:List α} {xs:List Value}
theorem Els.nil (R:World→α→List Value→Prop) (s:Nat) (w:World):Els R s w [] []:=⟨[],rfl,rfl,fun i x r h=>(by cases h)⟩
theorem Els.mono (h:Els R s w l xs) (hR:∀ x r,R w x r→R w' x r):Els R s w' l xs :=
 let ⟨rs,h1,h2,h3⟩:=h;⟨rs,h1,h2,fun i x r hx hr=>let ⟨a,b⟩:=h3 i x r hx hr;⟨a,hR x r b⟩⟩
theorem Els.snoc {x:α} {r:List Value} (h:Els R s w l xs) (hr:R w x r) (hl:r.length=s):Els R s w (l++[x]) (xs++r):=by
 obtain⟨rs,h1,h2,h3⟩:=h;refine⟨rs++[r],by rw[h1];simp,by simp[h2],fun i y q hy hq=>?_⟩
 by_cases hi:i < l.length
 ·rw[List.getElem?_append_left hi] at hy;rw[List.getElem?_append_left (by omega)] at hq;exact h3 i y q hy hq
 ·rw[List.getElem?_append_right (by omega)] at hy;rw[List.getElem?_append_right (by omega),h2] at hq
  obtain⟨k,hk⟩:∃ k,k=i - l.length:=⟨_,rfl⟩
  rw[← hk] at hy hq
  cases k with
  | zero=>cases hy;cases hq;exact⟨hl,hr⟩
  | succ k=>cases hy
theorem flat_get {s:Nat}:∀ (rs:List (List Value)),(∀ r∈rs,r.length=s)→∀ (i:Nat) (r:List Value),rs[i]?=some r→∀ j,j < s→rs.flatten[i*s+j]?=r[j]?
 | [],_,i,r,h,_,_=>by cases h
 | q::t,hl,0,r,h,j,hj=>by
  cases h;rw[List.flatten_cons,Nat.zero_mul,Nat.zero_add,List.getElem?_append_left (by rw[hl q (by simp)];exact hj)]
 | q::t,hl,i+1,r,h,j,hj=>by
  have hq:=hl q (by simp);have e:(i+1)*s=s+i*s:=by rw[Nat.succ_mul,Nat.add_comm]
  rw[List.flatten_cons,e,List.getElem?_append_right (by omega),show s+i*s+j - q.length=i*s+j by omega];exact flat_get t (fun r hr=>hl r (by simp[hr])) i r h j hj
end
end
section
open Go.RowKit
theorem qp2 {ops:Array Oper} {L:Array Bool} (h:Clo ops L) {n:Nat} (hn:L.getD n false=true):∀ f i,qn2 ops n f i=true→L.getD i false=true
 | 0,i,hs=>h n i hn hs
 | f+1,i,hs=>by
  unfold qn2 at hs;simp only[Bool.or_eq_true] at hs;rcases hs with hs | hs
  ·exact h n i hn hs
  ·obtain⟨k,_,hk⟩:=List.any_eq_true.1 hs;simp only[Bool.and_eq_true] at hk;obtain⟨h1,h2⟩:=hk;exact h k i (qp2 h hn f k h2) h1
/-- what the text says: acts: the writing operations in their order; lim: how many of them can have run ahead of a reading one -/
def seqB (ops:Array Oper) (acts:List Nat) (lim:Nat→Nat) (N:Nat):Bool :=
 (acts.all fun i=>decide (i < N)) && decide acts.Nodup && ((List.range acts.length).all fun r=>r == 0 || qn2 ops (acts.getD r 0) 9 (acts.getD (r - 1) 0))
  && ((List.range N).all fun i=>acts.contains i || decide (acts.length≤lim i) || qn2 ops (acts.getD (lim i) 0) 9 i)
theorem seqB.out {ops:Array Oper} {acts:List Nat} {lim:Nat→Nat} {N:Nat} (h:seqB ops acts lim N=true) :
  (∀ i∈acts,i < N)∧acts.Nodup∧(∀ r,r < acts.length→r=0 ∨ qn2 ops (acts.getD r 0) 9 (acts.getD (r - 1) 0)=true)∧(∀ i,i < N→i ∉ acts→acts.length≤lim i ∨ qn2 ops (acts.getD (lim i) 0) 9 i=true):=by
 unfold seqB at h;simp only[Bool.and_eq_true,List.all_eq_true,decide_eq_true_eq,Bool.or_eq_true,List.mem_range,beq_iff_eq,List.contains_iff_mem] at h;exact⟨h.1.1.1,h.1.1.2,h.1.2,fun i hi hn=>(h.2 i hi).elim (fun h=>h.elim (fun h=>absurd h hn) .inl) .inr⟩
theorem getD_mem {l:List Nat} {r:Nat} (h:r < l.length):l.getD r 0∈l:=by
 rw[List.getD_eq_getElem?_getD,List.getElem?_eq_getElem h];exact List.getElem_mem h
theorem qp3 {l:List Nat} (hn:l.Nodup) {r s:Nat} (hr:r < l.length) (hs:s < l.length) (h:l.getD r 0=l.getD s 0):r=s:=by
 rw[List.getD_eq_getElem?_getD,List.getD_eq_getElem?_getD,List.getElem?_eq_getElem hr,List.getElem?_eq_getElem hs] at h;exact(List.getElem_inj hn).1 h
def SeqI (acts:List Nat) (N:Nat) (vals:Nat→Value) (S:List Value→World→Prop) (L:Array Bool) (vs:Nat→Value) (w:World):Prop :=
 ∃ k,k≤acts.length∧(∀ r,r < acts.length→L.getD (acts.getD r 0) false=decide (r < k))∧S ((acts.take k).map vs) w∧∀ i,i < N→i ∉ acts→L.getD i false=true→vs i=vals i
theorem qc9 {P:Program} {id:Nat} {a0:Act} {W:World} {l:List Oper} {Q:Exit→Act→World→Prop} (N:Nat) (ds:Nat→List Nat) (acts:List Nat) (lim:Nat→Nat) (vals:Nat→Value) (S:List Value→World→Prop) (hm:P.follows .mixedOrders=true) (hBB:sepJ l.toArray N ds=true)
  (hN:(List.range N).all (fun i=>match qb9 l.toArray i with | some d=>decide (d < a0.tmps.size) | none=>true)=true) (hC:seqB l.toArray acts lim N=true)
  (h0:S [] W.drew)
  (hpure:∀ i,i < N→i ∉ acts→∀ o,l[i]?=some o→∀ k vs w,k≤lim i→(∀ r,r < acts.length→acts.getD r 0∈ds i→r < k)→S ((acts.take k).map vs) w→(∀ j∈ds i,j ∉ acts→vs j=vals j)→(execOp (frm l.toArray a0 vs (ds i)).eval o).run P w=.ok (.value (vals i)) w)
  (hact:∀ r,r < acts.length→∀ o,l[acts.getD r 0]?=some o→∀ vs w,S ((acts.take r).map vs) w→(∀ j∈ds (acts.getD r 0),j ∉ acts→vs j=vals j) →
   Made P (fun v w'=>S ((acts.take r).map vs++[v]) w') ((execOp (frm l.toArray a0 vs (ds (acts.getD r 0))).eval o).run P w))
  (hend:∀ vs w,S (acts.map vs) w→(∀ i,i < N→i ∉ acts→vs i=vals i)→wpList P l.toArray Q [] (frm l.toArray a0 vs (List.range N)) w) :
  (Code.region id l.toArray true).wp P Q a0 W:=by
 have hs:=SepJ.of hBB;obtain⟨cN,cD,cA,cL⟩:=seqB.out hC
 have hdN:∀ i,i < N→∀ j∈ds i,j < N:=fun i hi j hj=>by
  have hw:=hs.dep i hi j hj
  have hoi:∃ o,l.toArray[i]?=some o:=⟨l.toArray[i]'(by rw[hs.size];exact hi),Array.getElem?_eq_getElem _⟩
  obtain⟨o,ho⟩:=hoi;unfold qf0 at hw;rw[ho] at hw;obtain⟨e,he,hb⟩:=Array.any_eq_true'.1 hw;simp only[Bool.and_eq_true,beq_iff_eq] at hb;have:=hs.back i hi o ho e he hb.1
  omega
 refine qf4 N ds (SeqI acts N vals S) hm hBB hN (fun vs=>?_) ?_ ?_
 ·exact⟨0,Nat.zero_le _,fun r hr=>by rw[getD_replicate_false];simp,h0,fun i _ _ h=>by rw[getD_replicate_false] at h;cases h⟩
 ·intro i hi o ho L vs w hls hun hwt hcl ⟨k,hk,hL,hS,hV⟩;have hun':=und' hun;have hvd:∀ j∈ds i,j ∉ acts→vs j=vals j:=fun j hj hn=>hV j (hdN i hi j hj) hn (hwt j (hs.dep i hi j hj))
  by_cases hia:i∈acts
  ·obtain⟨r,hr,hri⟩:=List.mem_iff_getElem.1 hia;have hri':acts.getD r 0=i:=by rw[List.getD_eq_getElem?_getD,List.getElem?_eq_getElem hr];exact hri
   subst hri'
   have hkr:k≤r:=by
    have:=hL r hr;rw[hun'] at this;have:=of_decide_eq_false this.symm
    omega
   have hrk:r≤k:=by
    rcases cA r hr with h | h
    ·omega
    ·by_cases hr0:r=0
     ·omega
     have h1:=qp2 (clo_set hcl hwt hls hi) (getD_setN hls hi) 9 _ h;rw[getD_set_ne false (fun e=>by have:=qp3 cD hr (by omega) e;omega)] at h1;rw[hL (r - 1) (by omega)] at h1;have:=of_decide_eq_true h1
     omega
   obtain rfl:k=r:=by omega
   refine(hact k hr o ho vs w hS hvd).mono fun v w' hS'=>?_;refine⟨k+1,hr,fun s hsl=>?_,?_,fun j hj hjn hjl=>?_⟩
   ·by_cases hsk:s=k
    ·subst hsk;rw[getD_setN hls hi]
     simp
    ·rw[getD_set_ne false (fun e=>hsk (qp3 cD hr hsl e).symm),hL s hsl];rw[decide_eq_decide]
     omega
   ·have e1:((acts.take (k+1)).map fun j=>if j=acts.getD k 0 then v else vs j)=(acts.take k).map vs++[v]:=by
     rw[List.take_add_one,List.getElem?_eq_getElem hr,Option.toList,List.map_append]
     congr 1
     ·refine List.map_congr_left fun j hj=>?_;rw[if_neg];intro e;obtain⟨s,hs',hse⟩:=List.mem_iff_getElem.1 hj;rw[List.length_take] at hs';rw[List.getElem_take] at hse;have:acts.getD s 0=acts.getD k 0:=by rw[← e,← hse,List.getD_eq_getElem?_getD,List.getElem?_eq_getElem (by omega)];rfl
      have:=qp3 cD (by omega) hr this
      omega
     ·rw[List.map_singleton,if_pos];rw[List.getD_eq_getElem?_getD,List.getElem?_eq_getElem hr]
      rfl
    rw[e1];exact hS'
   ·have hne:j≠acts.getD k 0:=fun e=>hjn (e ▸ hia)
    show(if j=acts.getD k 0 then v else vs j)=vals j
    rw[if_neg hne];rw[getD_set_ne false (fun e=>hne e.symm)] at hjl;exact hV j hj hjn hjl
  ·have hkl:k≤lim i:=by
    rcases cL i hi hia with h | h
    ·omega
    ·by_cases hlt:lim i < k
     ·have h1:=hL (lim i) (by omega);rw[decide_eq_true hlt] at h1;rw[qp2 hcl h1 9 _ h] at hun';cases hun'
     ·omega
   have hlow:∀ r,r < acts.length→acts.getD r 0∈ds i→r < k:=fun r hr hm=>by
    have h1:=hwt _ (hs.dep i hi _ hm);rw[hL r hr] at h1;exact of_decide_eq_true h1
   rw[hpure i hi hia o ho k vs w hkl hlow hS hvd];refine qa5 ⟨k,hk,fun r hr=>?_,?_,fun j hj hjn hjl=>?_⟩
   ·rw[getD_set_ne false (fun e=>hia (by rw[e];exact getD_mem hr))];exact hL r hr
   ·have e1:((acts.take k).map fun j=>if j=i then vals i else vs j)=(acts.take k).map vs:=List.map_congr_left fun j hj=>by
     rw[if_neg];intro e;exact hia (e ▸ List.mem_of_mem_take hj)
    rw[e1];exact hS
   ·by_cases hji:j=i
    ·subst hji
     show(if j=j then vals j else vs j)=vals j
     rw[if_pos rfl]
    ·show(if j=i then vals i else vs j)=vals j
     rw[if_neg hji];rw[getD_set_ne false (fun e=>hji e.symm)] at hjl;exact hV j hj hjn hjl
 ·intro L vs w hls hall ⟨k,hk,hL,hS,hV⟩
  have hkl:k=acts.length:=by
   by_cases h:k < acts.length
   ·have:=hL k h;rw[hall _ (cN _ (getD_mem h))] at this
    simp at this
   ·omega
  subst hkl;rw[List.take_length] at hS;exact hend vs w hS fun i hi hn=>hV i hi hn (hall i hi)
end
end Go.Proofs.YtmbnlccafcfbeaaGreatDoor
