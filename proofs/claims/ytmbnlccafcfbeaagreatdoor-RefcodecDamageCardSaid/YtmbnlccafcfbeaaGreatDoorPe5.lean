/- Parts of the proof: Wire9. -/
import Derived.Test.YtmbnlccafcfbeaaGreatDoorPeA
import Derived.Test.YtmbnlccafcfbeaaGreatDoorPe4
set_option linter.unusedVariables false
set_option linter.unusedSimpArgs false
set_option linter.unusedSectionVars false
set_option maxRecDepth 100000
namespace Go.Proofs.YtmbnlccafcfbeaaGreatDoor
section
open Go.RowKit
attribute [local go_sem] Oper.semAt_some
section
variable {w:World} {g bb p s c:Nat} {A:Option Addr} {b t:List Int} {x:Int}
theorem Bool1_no (h:RdR w g bb ⟨b,0⟩ A c) (hp:Bk w p 79 #[.pointer (some ⟨g,0,none⟩)]) (hb:b=[] ∨ ∃ x t,b=x::t∧1 < x):Calls Tryz.prog 160 #[.pointer (some ⟨p,0,none⟩),.pointer (some ⟨s,0,none⟩)] w fun e w1=>e=.returned (.int .i64 11)∧Below w.heap.size w w1:=by
 have p0:w.cell? ⟨p,0,none⟩=some (.pointer (some ⟨g,0,none⟩)):=hp.cell 0
 have r0:w.cell? ⟨g,0,none⟩=some (.slice A b.length c):=h.bk.cell 0
 have hcm:=h.cm
 have hcp:=h.cap
 dsimp only at hcp
 rcases hb with rfl | ⟨x,t,rfl,hx⟩
 ·clear h hp
  go_enter Tryz.func160,Tryz.ntmps160
  go_wp2_with fail
  go_ret
  exact⟨rfl,Below.refl _ _⟩
 ·obtain⟨b',o,hA,hbl,hc⟩:=h.sl.2.resolve_left (by simp)
  have e0:w.cell? ⟨b',o,none⟩=some (.int .u8 x):=hc 0 _ rfl
  have hlc:(x::t).length=t.length+1:=rfl
  rw[hlc] at r0 hcp
  have d0:((t.length:Int)+1 == 0)=false:=by simpa using (show ¬ ((t.length:Int)+1=0) by omega)
  have d1:decide (x > 1)=true:=decide_eq_true hx
  have h00:0 < t.length+1:=by omega
  subst hA
  clear h hp hc hbl hlc hx
  go_enter Tryz.func160,Tryz.ntmps160
  go_wp2_with fail
  go_ret
  exact⟨rfl,Below.refl _ _⟩
set_option maxHeartbeats 8000000 in
theorem Bool1_ok (h:RdR w g bb ⟨x::t,0⟩ A c) (hp:Bk w p 79 #[.pointer (some ⟨g,0,none⟩)]) (hs:Bk w s 4 #[.bool false]) (hsb:s≠bb) (hx:x≤1):Calls Tryz.prog 160 #[.pointer (some ⟨p,0,none⟩),.pointer (some ⟨s,0,none⟩)] w fun e w1=>e=.returned (.int .i64 0)∧RdX w1 g bb ⟨t,0⟩∧(Bk w1 s 4 #[.bool (decide (x=1))]∧Kp (fun k=>k=g ∨ k=s) w w1):=by
 have hcm:=h.cm
 have hcp:=h.cap
 have hcp:t.length+1≤c:=hcp
 obtain⟨b',o,hA,hbl,hc⟩:=h.sl.2.resolve_left (by simp)
 obtain⟨rfl,_⟩:=h.at_ b' o none hA
 subst hA
 have hx8:=h.b8 x (by simp)
 have p0:w.cell? ⟨p,0,none⟩=some (.pointer (some ⟨g,0,none⟩)):=hp.cell 0
 have r0:w.cell? ⟨g,0,none⟩=some (.slice (some ⟨b',o,none⟩) (t.length+1) c):=h.bk.cell 0
 have e0:w.cell? ⟨b',o,none⟩=some (.int .u8 x):=hc 0 _ rfl
 have d0:((t.length:Int)+1 == 0)=false:=by simpa using (show ¬ ((t.length:Int)+1=0) by omega)
 have d1:decide (x > 1)=false:=decide_eq_false (by omega)
 have h00:0 < t.length+1:=by omega
 have HNE:Hid (g≠s∧p≠s∧p≠g):=lh (by
  have hb:=h.bk
  unfold Bk at hs hp hb
  refine⟨fun e=>?_,fun e=>?_,fun e=>?_⟩
  ·rw[e,hs] at hb;cases hb
  ·rw[e,hs] at hp;cases hp
  ·rw[e,hb] at hp;cases hp)
 have H:=lh h
 have HR:=lh (And.intro h.bk (And.intro hp hs))
 have HC:=lh (And.intro hbl hc)
 obtain⟨X,hX⟩:∃ X,X=(x == 1):=⟨_,rfl⟩
 have HX:Hid (X=decide (x=1)):=lh hX
 obtain⟨W1,hW1⟩:∃ W1,W1=w.drew.setCell ⟨s,0,none⟩ (.bool X):=⟨_,rfl⟩
 have hg0:w.drew.cell? ⟨g,0,none⟩=some (.slice (some ⟨b',o,none⟩) (t.length+1) c):=r0
 have hp0:w.drew.cell? ⟨p,0,none⟩=some (.pointer (some ⟨g,0,none⟩)):=p0
 have he0:w.drew.cell? ⟨b',o,none⟩=some (.int .u8 x):=e0
 have hs0:w.drew.cell? ⟨s,0,none⟩=some (.bool false):=hs.cell 0
 have hsf:w.drew.frozen? ⟨s,0,none⟩=false:=hs.free 0
 have hrb:Bk w.drew g 103 #[.slice (some ⟨b',o,none⟩) (t.length+1) c,.int .i64 0]:=h.bk
 have hpb:Bk w.drew p 79 #[.pointer (some ⟨g,0,none⟩)]:=hp
 have hsk:Bk w.drew s 4 #[.bool false]:=hs
 have hr1:=hrb.far (p:=⟨s,0,none⟩) HNE.out.1 (.bool X)
 have hg1:W1.cell? ⟨g,0,none⟩=some (.slice (some ⟨b',o,none⟩) (t.length+1) c):=by rw[hW1];exact hr1.cell 0
 have hgf:W1.frozen? ⟨g,0,none⟩=false:=by rw[hW1];exact hr1.free 0
 have hp1:W1.cell? ⟨p,0,none⟩=some (.pointer (some ⟨g,0,none⟩)):=by rw[hW1];exact(hpb.far (p:=⟨s,0,none⟩) HNE.out.2.1 _).cell 0
 have he1:W1.cell? ⟨b',o,none⟩=some (.int .u8 x):=by
  rw[hW1]
  exact(World.cell?_of_block (a:=⟨b',o,none⟩) (Below.heap_setCell _ _ _ _ (fun e=>hsb e.symm))).trans he0
 have HB1:Hid (Bk W1 g 103 #[.slice (some ⟨b',o,none⟩) (t.length+1) c,.int .i64 0]∧Bk W1 s 4 #[.bool X]∧Kp (fun k=>k=s) w W1):=lh ⟨by rw[hW1];exact hr1,by rw[hW1];exact hsk.set 0 _,by
  rw[hW1]
  exact(Kp.setCell (S:=fun k=>k=s) w ⟨s,0,none⟩ (.bool X) rfl).drew⟩
 have HF:=lh (And.intro hg0 (And.intro hp0 (And.intro he0 (And.intro hg1 (And.intro hp1 (And.intro he1 (And.intro hs0 (And.intro hsf hgf))))))))
 have HW1:=lh hW1
 have hx80:=hx8.1
 clear h hp hs hbl hc hX hW1 hg0 hp0 he0 hs0 hsf hrb hpb hsk hr1 hg1 hgf hp1 he1 hx8
 go_enter Tryz.func160,Tryz.ntmps160
 go_upto_region 3 with fail
 clear p0 r0 e0
 by_cases hc1:c=1
 ·subst hc1
  have ht0:t.length=0:=by omega
  obtain⟨W2,hW2⟩:∃ W2,W2=W1.setCell ⟨g,0,none⟩ (.slice (some ⟨b',o,none⟩) 0 0):=⟨_,rfl⟩
  have HW2:=lh hW2
  rw[ht0] at HF
  have HF2:Hid (w.drew.cell? ⟨g,0,none⟩=some (.slice (some ⟨b',o,none⟩) 1 1)∧W1.cell? ⟨g,0,none⟩=some (.slice (some ⟨b',o,none⟩) 1 1)):=lh ⟨HF.out.1,HF.out.2.2.2.1⟩
  clear hW2 hcp
  refine wp_region_invD 17 (fun i=>([[],[],[1],[2],[3],[4],[5],[6],[],[8],[9],[10],[11],[7],[0],[14],[12,15]]:List (List Nat)).getD i []) (fun L vs wI=>wI=stg L 16 (stg L 13 w.drew W1) W2∧Vals ([some (.pointer (some ⟨g,0,none⟩)),some (.pointer (some ⟨g,0,none⟩)),some (.pointer (some ⟨g,0,none⟩)),some (.pointer (some ⟨g,0,none⟩)),some (.slice (some ⟨b',o,none⟩) 1 1),some (.pointer (some ⟨b',o,none⟩)),some (.int .u8 x),some (.bool X),some (.pointer (some ⟨g,0,none⟩)),some (.pointer (some ⟨g,0,none⟩)),some (.pointer (some ⟨g,0,none⟩)),some (.slice (some ⟨b',o,none⟩) 1 1),some (.slice (some ⟨b',o,none⟩) 0 0),none,some (.pointer (some ⟨g,0,none⟩)),some (.pointer (some ⟨g,0,none⟩)),none]:List (Option Value)) L vs) rfl (by kernel_rfl) (by rfl) (fun vs=>?_) ?_ ?_
  ·refine⟨?_,fun k v _ h=>by rw[getD_replicate_false] at h;cases h⟩
   unfold stg
   rw[getD_replicate_false,getD_replicate_false,if_neg (by simp),if_neg (by simp)]
   all_goals exact rfl
  ·intro i hi o ho L vs w8 hls hun hwt hcl hI
   have hun2:=und' hun
   rcases (show i=0 ∨ i=1 ∨ i=2 ∨ i=3 ∨ i=4 ∨ i=5 ∨ i=6 ∨ i=7 ∨ i=8 ∨ i=9 ∨ i=10 ∨ i=11 ∨ i=12 ∨ i=13 ∨ i=14 ∨ i=15 ∨ i=16 by omega) with rfl | rfl | rfl | rfl | rfl | rfl | rfl | rfl | rfl | rfl | rfl | rfl | rfl | rfl | rfl | rfl | rfl <;> cases ho
   ·have n2:L.getD 16 false=false:=hcl.nd hun2 (by kernel_rfl)
    have hw:w8=stg L 13 w.drew W1:=hI.1.trans (stg_no _ _ n2)
    have ec:w8.cell? ⟨p,0,none⟩=some (.pointer (some ⟨g,0,none⟩)):=by rw[hw];exact stg_fact (fun w:World=>w.cell? ⟨p,0,none⟩=some (.pointer (some ⟨g,0,none⟩):Value)) HF.out.2.1 HF.out.2.2.2.2.1
    have hI2:=lh (And.intro hI (And.intro hls hw))
    clear hI hwt hun hun2 hcl hls n2 hw
    change Made _ _ (Sem.run _ (execOp (Act.eval (frm _ _ _ [])) _) _)
    simp only[frm]
    go_simp
    refine made_ok ⟨?_,hI2.out.1.2.put fun x hx=>by cases hx;rfl⟩
    rw[stg_set _ _ (by decide),stg_set _ _ (by decide)]
    exact hI2.out.1.1
   ·have n2:L.getD 16 false=false:=hcl.nd hun2 (by kernel_rfl)
    have hw:w8=stg L 13 w.drew W1:=hI.1.trans (stg_no _ _ n2)
    have ec:w8.cell? ⟨p,0,none⟩=some (.pointer (some ⟨g,0,none⟩)):=by rw[hw];exact stg_fact (fun w:World=>w.cell? ⟨p,0,none⟩=some (.pointer (some ⟨g,0,none⟩):Value)) HF.out.2.1 HF.out.2.2.2.2.1
    have hI2:=lh (And.intro hI (And.intro hls hw))
    clear hI hwt hun hun2 hcl hls n2 hw
    change Made _ _ (Sem.run _ (execOp (Act.eval (frm _ _ _ [])) _) _)
    simp only[frm]
    go_simp
    refine made_ok ⟨?_,hI2.out.1.2.put fun x hx=>by cases hx;rfl⟩
    rw[stg_set _ _ (by decide),stg_set _ _ (by decide)]
    exact hI2.out.1.1
   ·have h1:vs 1=.pointer (some ⟨g,0,none⟩):=hI.2 1 _ rfl (hwt 1 (by kernel_rfl))
    have n2:L.getD 16 false=false:=hcl.nd hun2 (by kernel_rfl)
    have hw:w8=stg L 13 w.drew W1:=hI.1.trans (stg_no _ _ n2)
    have hI2:=lh (And.intro hI (And.intro hls hw))
    clear hI hwt hun hun2 hcl hls n2 hw
    change Made _ _ (Sem.run _ (execOp (Act.eval (Act.put (frm _ _ _ []) (some 19) (vs 1))) _) _)
    simp only[frm,h1]
    go_simp
    refine made_ok ⟨?_,hI2.out.1.2.put fun x hx=>by cases hx;rfl⟩
    rw[stg_set _ _ (by decide),stg_set _ _ (by decide)]
    exact hI2.out.1.1
   ·have h2:vs 2=.pointer (some ⟨g,0,none⟩):=hI.2 2 _ rfl (hwt 2 (by kernel_rfl))
    have n2:L.getD 16 false=false:=hcl.nd hun2 (by kernel_rfl)
    have hw:w8=stg L 13 w.drew W1:=hI.1.trans (stg_no _ _ n2)
    have hI2:=lh (And.intro hI (And.intro hls hw))
    clear hI hwt hun hun2 hcl hls n2 hw
    change Made _ _ (Sem.run _ (execOp (Act.eval (Act.put (frm _ _ _ []) (some 20) (vs 2))) _) _)
    simp only[frm,h2]
    go_simp
    refine made_ok ⟨?_,hI2.out.1.2.put fun x hx=>by cases hx;rfl⟩
    rw[stg_set _ _ (by decide),stg_set _ _ (by decide)]
    exact hI2.out.1.1
   ·have h3:vs 3=.pointer (some ⟨g,0,none⟩):=hI.2 3 _ rfl (hwt 3 (by kernel_rfl))
    have n2:L.getD 16 false=false:=hcl.nd hun2 (by kernel_rfl)
    have hw:w8=stg L 13 w.drew W1:=hI.1.trans (stg_no _ _ n2)
    have ec:w8.cell? ⟨g,0,none⟩=some (.slice (some ⟨b',o,none⟩) 1 1):=by rw[hw];exact stg_fact (fun w:World=>w.cell? ⟨g,0,none⟩=some (.slice (some ⟨b',o,none⟩) 1 1:Value)) HF2.out.1 HF2.out.2
    have hI2:=lh (And.intro hI (And.intro hls hw))
    clear hI hwt hun hun2 hcl hls n2 hw
    change Made _ _ (Sem.run _ (execOp (Act.eval (Act.put (frm _ _ _ []) (some 21) (vs 3))) _) _)
    simp only[frm,h3]
    go_simp
    refine made_ok ⟨?_,hI2.out.1.2.put fun x hx=>by cases hx;rfl⟩
    rw[stg_set _ _ (by decide),stg_set _ _ (by decide)]
    exact hI2.out.1.1
   ·have h4:vs 4=.slice (some ⟨b',o,none⟩) 1 1:=hI.2 4 _ rfl (hwt 4 (by kernel_rfl))
    have n2:L.getD 16 false=false:=hcl.nd hun2 (by kernel_rfl)
    have hw:w8=stg L 13 w.drew W1:=hI.1.trans (stg_no _ _ n2)
    have hI2:=lh (And.intro hI (And.intro hls hw))
    clear hI hwt hun hun2 hcl hls n2 hw
    change Made _ _ (Sem.run _ (execOp (Act.eval (Act.put (frm _ _ _ []) (some 22) (vs 4))) _) _)
    simp only[frm,h4]
    go_simp
    refine made_ok ⟨?_,hI2.out.1.2.put fun x hx=>by cases hx;rfl⟩
    rw[stg_set _ _ (by decide),stg_set _ _ (by decide)]
    exact hI2.out.1.1
   ·have h5:vs 5=.pointer (some ⟨b',o,none⟩):=hI.2 5 _ rfl (hwt 5 (by kernel_rfl))
    have n2:L.getD 16 false=false:=hcl.nd hun2 (by kernel_rfl)
    have hw:w8=stg L 13 w.drew W1:=hI.1.trans (stg_no _ _ n2)
    have ec:w8.cell? ⟨b',o,none⟩=some (.int .u8 x):=by rw[hw];exact stg_fact (fun w:World=>w.cell? ⟨b',o,none⟩=some (.int .u8 x:Value)) HF.out.2.2.1 HF.out.2.2.2.2.2.1
    have hI2:=lh (And.intro hI (And.intro hls hw))
    clear hI hwt hun hun2 hcl hls n2 hw
    change Made _ _ (Sem.run _ (execOp (Act.eval (Act.put (frm _ _ _ []) (some 23) (vs 5))) _) _)
    simp only[frm,h5]
    go_simp
    refine made_ok ⟨?_,hI2.out.1.2.put fun x hx=>by cases hx;rfl⟩
    rw[stg_set _ _ (by decide),stg_set _ _ (by decide)]
    exact hI2.out.1.1
   ·have h6:vs 6=.int .u8 x:=hI.2 6 _ rfl (hwt 6 (by kernel_rfl))
    have n2:L.getD 16 false=false:=hcl.nd hun2 (by kernel_rfl)
    have hw:w8=stg L 13 w.drew W1:=hI.1.trans (stg_no _ _ n2)
    have hXX:(x == 1)=X:=by rw[HX.out];rfl
    have hI2:=lh (And.intro hI (And.intro hls hw))
    clear hI hwt hun hun2 hcl hls n2 hw
    change Made _ _ (Sem.run _ (execOp (Act.eval (Act.put (frm _ _ _ []) (some 24) (vs 6))) _) _)
    simp only[frm,h6]
    go_simp
    refine made_ok ⟨?_,hI2.out.1.2.put fun x hx=>by cases hx;rfl⟩
    rw[stg_set _ _ (by decide),stg_set _ _ (by decide)]
    exact hI2.out.1.1
   ·have n2:L.getD 16 false=false:=hcl.nd hun2 (by kernel_rfl)
    have hw:w8=stg L 13 w.drew W1:=hI.1.trans (stg_no _ _ n2)
    have ec:w8.cell? ⟨p,0,none⟩=some (.pointer (some ⟨g,0,none⟩)):=by rw[hw];exact stg_fact (fun w:World=>w.cell? ⟨p,0,none⟩=some (.pointer (some ⟨g,0,none⟩):Value)) HF.out.2.1 HF.out.2.2.2.2.1
    have hI2:=lh (And.intro hI (And.intro hls hw))
    clear hI hwt hun hun2 hcl hls n2 hw
    change Made _ _ (Sem.run _ (execOp (Act.eval (frm _ _ _ [])) _) _)
    simp only[frm]
    go_simp
    refine made_ok ⟨?_,hI2.out.1.2.put fun x hx=>by cases hx;rfl⟩
    rw[stg_set _ _ (by decide),stg_set _ _ (by decide)]
    exact hI2.out.1.1
   ·have h8:vs 8=.pointer (some ⟨g,0,none⟩):=hI.2 8 _ rfl (hwt 8 (by kernel_rfl))
    have n2:L.getD 16 false=false:=hcl.nd hun2 (by kernel_rfl)
    have hw:w8=stg L 13 w.drew W1:=hI.1.trans (stg_no _ _ n2)
    have hI2:=lh (And.intro hI (And.intro hls hw))
    clear hI hwt hun hun2 hcl hls n2 hw
    change Made _ _ (Sem.run _ (execOp (Act.eval (Act.put (frm _ _ _ []) (some 26) (vs 8))) _) _)
    simp only[frm,h8]
    go_simp
    refine made_ok ⟨?_,hI2.out.1.2.put fun x hx=>by cases hx;rfl⟩
    rw[stg_set _ _ (by decide),stg_set _ _ (by decide)]
    exact hI2.out.1.1
   ·have h9:vs 9=.pointer (some ⟨g,0,none⟩):=hI.2 9 _ rfl (hwt 9 (by kernel_rfl))
    have n2:L.getD 16 false=false:=hcl.nd hun2 (by kernel_rfl)
    have hw:w8=stg L 13 w.drew W1:=hI.1.trans (stg_no _ _ n2)
    have hI2:=lh (And.intro hI (And.intro hls hw))
    clear hI hwt hun hun2 hcl hls n2 hw
    change Made _ _ (Sem.run _ (execOp (Act.eval (Act.put (frm _ _ _ []) (some 27) (vs 9))) _) _)
    simp only[frm,h9]
    go_simp
    refine made_ok ⟨?_,hI2.out.1.2.put fun x hx=>by cases hx;rfl⟩
    rw[stg_set _ _ (by decide),stg_set _ _ (by decide)]
    exact hI2.out.1.1
   ·have h10:vs 10=.pointer (some ⟨g,0,none⟩):=hI.2 10 _ rfl (hwt 10 (by kernel_rfl))
    have n2:L.getD 16 false=false:=hcl.nd hun2 (by kernel_rfl)
    have hw:w8=stg L 13 w.drew W1:=hI.1.trans (stg_no _ _ n2)
    have ec:w8.cell? ⟨g,0,none⟩=some (.slice (some ⟨b',o,none⟩) 1 1):=by rw[hw];exact stg_fact (fun w:World=>w.cell? ⟨g,0,none⟩=some (.slice (some ⟨b',o,none⟩) 1 1:Value)) HF2.out.1 HF2.out.2
    have hI2:=lh (And.intro hI (And.intro hls hw))
    clear hI hwt hun hun2 hcl hls n2 hw
    change Made _ _ (Sem.run _ (execOp (Act.eval (Act.put (frm _ _ _ []) (some 28) (vs 10))) _) _)
    simp only[frm,h10]
    go_simp
    refine made_ok ⟨?_,hI2.out.1.2.put fun x hx=>by cases hx;rfl⟩
    rw[stg_set _ _ (by decide),stg_set _ _ (by decide)]
    exact hI2.out.1.1
   ·have h11:vs 11=.slice (some ⟨b',o,none⟩) 1 1:=hI.2 11 _ rfl (hwt 11 (by kernel_rfl))
    have n2:L.getD 16 false=false:=hcl.nd hun2 (by kernel_rfl)
    have hw:w8=stg L 13 w.drew W1:=hI.1.trans (stg_no _ _ n2)
    have hI2:=lh (And.intro hI (And.intro hls hw))
    clear hI hwt hun hun2 hcl hls n2 hw
    change Made _ _ (Sem.run _ (execOp (Act.eval (Act.put (frm _ _ _ []) (some 29) (vs 11))) _) _)
    simp only[frm,h11]
    go_simp
    refine made_ok ⟨?_,hI2.out.1.2.put fun x hx=>by cases hx;rfl⟩
    rw[stg_set _ _ (by decide),stg_set _ _ (by decide)]
    exact hI2.out.1.1
   ·have h7:vs 7=.bool X:=hI.2 7 _ rfl (hwt 7 (by kernel_rfl))
    have n2:L.getD 16 false=false:=hcl.nd hun2 (by kernel_rfl)
    have hw:w8=w.drew:=hI.1.trans ((stg_no _ _ n2).trans (stg_no _ _ hun2))
    subst hw
    have es:=HF.out.2.2.2.2.2.2.1
    have ef:=HF.out.2.2.2.2.2.2.2.1
    have hI2:=lh (And.intro hI (And.intro hls n2))
    clear hI hwt hun hun2 hcl hls n2
    change Made _ _ (Sem.run _ (execOp (Act.eval (Act.put (frm _ _ _ []) (some 25) (vs 7))) _) _)
    simp only[frm,h7]
    go_simp
    refine made_skip ⟨?_,hI2.out.1.2.put fun x hx=>by cases hx⟩
    rw[stg_set _ _ (by decide),stg_no _ _ hI2.out.2.2,stg_new _ _ (by rw[hI2.out.2.1];decide)]
    exact HW1.out.symm
   ·have h0:vs 0=.pointer (some ⟨g,0,none⟩):=hI.2 0 _ rfl (hwt 0 (by kernel_rfl))
    have n15_:L.getD 15 false=false:=hcl.nd hun2 (by kernel_rfl)
    have n2:L.getD 16 false=false:=hcl.nd n15_ (by kernel_rfl)
    have hw:w8=stg L 13 w.drew W1:=hI.1.trans (stg_no _ _ n2)
    have hI2:=lh (And.intro hI (And.intro hls hw))
    clear hI hwt hun hun2 hcl hls n2 hw
    change Made _ _ (Sem.run _ (execOp (Act.eval (Act.put (frm _ _ _ []) (some 18) (vs 0))) _) _)
    simp only[frm,h0]
    go_simp
    refine made_ok ⟨?_,hI2.out.1.2.put fun x hx=>by cases hx;rfl⟩
    rw[stg_set _ _ (by decide),stg_set _ _ (by decide)]
    exact hI2.out.1.1
   ·have h14:vs 14=.pointer (some ⟨g,0,none⟩):=hI.2 14 _ rfl (hwt 14 (by kernel_rfl))
    have n2:L.getD 16 false=false:=hcl.nd hun2 (by kernel_rfl)
    have hw:w8=stg L 13 w.drew W1:=hI.1.trans (stg_no _ _ n2)
    have hI2:=lh (And.intro hI (And.intro hls hw))
    clear hI hwt hun hun2 hcl hls n2 hw
    change Made _ _ (Sem.run _ (execOp (Act.eval (Act.put (frm _ _ _ []) (some 31) (vs 14))) _) _)
    simp only[frm,h14]
    go_simp
    refine made_ok ⟨?_,hI2.out.1.2.put fun x hx=>by cases hx;rfl⟩
    rw[stg_set _ _ (by decide),stg_set _ _ (by decide)]
    exact hI2.out.1.1
   ·have h12:vs 12=.slice (some ⟨b',o,none⟩) 0 0:=hI.2 12 _ rfl (hwt 12 (by kernel_rfl))
    have h15:vs 15=.pointer (some ⟨g,0,none⟩):=hI.2 15 _ rfl (hwt 15 (by kernel_rfl))
    have hw:w8=W1:=hI.1.trans ((stg_no _ _ hun2).trans (stg_done _ _ (hwt 13 (by kernel_rfl))))
    subst hw
    have es:=HF2.out.2
    have ef:=HF.out.2.2.2.2.2.2.2.2
    have hI2:=lh (And.intro hI hls)
    clear hI hwt hun hun2 hcl hls
    change Made _ _ (Sem.run _ (execOp (Act.eval (Act.put (Act.put (frm _ _ _ []) (some 32) (vs 15)) (some 30) (vs 12))) _) _)
    simp only[frm,h12,h15]
    go_simp
    refine made_skip ⟨?_,hI2.out.1.2.put fun x hx=>by cases hx⟩
    rw[stg_new _ _ (by rw[hI2.out.2];decide)]
    exact HW2.out.symm
  ·intro L vs w8 hls hall hI
   have hw:w8=W2:=hI.1.trans (stg_done _ _ (hall 16 (by decide)))
   have h0:vs 0=.pointer (some ⟨g,0,none⟩):=hI.2 0 _ rfl (hall 0 (by decide))
   have h1:vs 1=.pointer (some ⟨g,0,none⟩):=hI.2 1 _ rfl (hall 1 (by decide))
   have h2:vs 2=.pointer (some ⟨g,0,none⟩):=hI.2 2 _ rfl (hall 2 (by decide))
   have h3:vs 3=.pointer (some ⟨g,0,none⟩):=hI.2 3 _ rfl (hall 3 (by decide))
   have h4:vs 4=.slice (some ⟨b',o,none⟩) 1 1:=hI.2 4 _ rfl (hall 4 (by decide))
   have h5:vs 5=.pointer (some ⟨b',o,none⟩):=hI.2 5 _ rfl (hall 5 (by decide))
   have h6:vs 6=.int .u8 x:=hI.2 6 _ rfl (hall 6 (by decide))
   have h7:vs 7=.bool X:=hI.2 7 _ rfl (hall 7 (by decide))
   have h8:vs 8=.pointer (some ⟨g,0,none⟩):=hI.2 8 _ rfl (hall 8 (by decide))
   have h9:vs 9=.pointer (some ⟨g,0,none⟩):=hI.2 9 _ rfl (hall 9 (by decide))
   have h10:vs 10=.pointer (some ⟨g,0,none⟩):=hI.2 10 _ rfl (hall 10 (by decide))
   have h11:vs 11=.slice (some ⟨b',o,none⟩) 1 1:=hI.2 11 _ rfl (hall 11 (by decide))
   have h12:vs 12=.slice (some ⟨b',o,none⟩) 0 0:=hI.2 12 _ rfl (hall 12 (by decide))
   have h14:vs 14=.pointer (some ⟨g,0,none⟩):=hI.2 14 _ rfl (hall 14 (by decide))
   have h15:vs 15=.pointer (some ⟨g,0,none⟩):=hI.2 15 _ rfl (hall 15 (by decide))
   change wpList _ _ _ [] (Act.put (Act.put (Act.put (Act.put (Act.put (Act.put (Act.put (Act.put (Act.put (Act.put (Act.put (Act.put (Act.put (Act.put (Act.put (Act.put (Act.put (frm _ _ _ []) none (vs 16)) (some 32) (vs 15)) (some 31) (vs 14)) none (vs 13)) (some 30) (vs 12)) (some 29) (vs 11)) (some 28) (vs 10)) (some 27) (vs 9)) (some 26) (vs 8)) (some 25) (vs 7)) (some 24) (vs 6)) (some 23) (vs 5)) (some 22) (vs 4)) (some 21) (vs 3)) (some 20) (vs 2)) (some 19) (vs 1)) (some 18) (vs 0)) _
   simp only[frm,h0,h1,h2,h3,h4,h5,h6,h7,h8,h9,h10,h11,h12,h14,h15]
   generalize vs 13=vz13
   generalize vs 16=vz16
   rw[hw]
   clear hw hI hall hls h0 h1 h2 h3 h4 h5 h6 h7 h8 h9 h10 h11 h12 h14 h15
   have HT8:Hid (B8 t):=lh fun y hy=>H.out.b8 y (by simp[hy])
   have HD:Hid (t=[]):=lh (List.length_eq_zero_iff.1 ht0)
   have HK2:Hid (Kp (fun k=>k=g ∨ k=s) w W2):=lh (by rw[HW2.out];exact(HB1.out.2.2.mono (T:=fun k=>k=g ∨ k=s) fun _ _ h=>.inr h).trans (Kp.setCell (S:=fun k=>k=g) _ ⟨g,0,none⟩ _ rfl) fun _ _ h=>.inl h)
   have HS2:Hid (Bk W2 s 4 #[.bool X]):=lh (by rw[HW2.out];exact HB1.out.2.1.far (p:=⟨g,0,none⟩) (fun e=>HNE.out.1 e.symm) _)
   clear HF HF2
   go_wp2_with fail
   go_ret
   exact⟨rfl,⟨some ⟨b',o,none⟩,0,⟨by rw[HW2.out,HD.out];exact HB1.out.1.set 0 _,by rw[HD.out];exact Nat.le_refl _,Nat.zero_le _,by rw[HD.out];exact Sl.nil _ _ _,fun b o m e=>(by cases e;exact⟨rfl,rfl⟩),fun e=>(by cases e),H.out.ne,HT8.out⟩⟩,by have h9:=HS2.out;rw[HX.out] at h9;exact h9,HK2.out⟩
 ·obtain⟨W2,hW2⟩:∃ W2,W2=W1.setCell ⟨g,0,none⟩ (.slice (some ⟨b',o+1,none⟩) t.length (c - 1)):=⟨_,rfl⟩
  have HW2:=lh hW2
  have HF2:Hid (w.drew.cell? ⟨g,0,none⟩=some (.slice (some ⟨b',o,none⟩) (t.length+1) c)∧W1.cell? ⟨g,0,none⟩=some (.slice (some ⟨b',o,none⟩) (t.length+1) c)):=lh ⟨HF.out.1,HF.out.2.2.2.1⟩
  clear hW2 hcp
  refine wp_region_invD 17 (fun i=>([[],[],[1],[2],[3],[4],[5],[6],[],[8],[9],[10],[11],[7],[0],[14],[12,15]]:List (List Nat)).getD i []) (fun L vs wI=>wI=stg L 16 (stg L 13 w.drew W1) W2∧Vals ([some (.pointer (some ⟨g,0,none⟩)),some (.pointer (some ⟨g,0,none⟩)),some (.pointer (some ⟨g,0,none⟩)),some (.pointer (some ⟨g,0,none⟩)),some (.slice (some ⟨b',o,none⟩) (t.length+1) c),some (.pointer (some ⟨b',o,none⟩)),some (.int .u8 x),some (.bool X),some (.pointer (some ⟨g,0,none⟩)),some (.pointer (some ⟨g,0,none⟩)),some (.pointer (some ⟨g,0,none⟩)),some (.slice (some ⟨b',o,none⟩) (t.length+1) c),some (.slice (some ⟨b',o+1,none⟩) t.length (c - 1)),none,some (.pointer (some ⟨g,0,none⟩)),some (.pointer (some ⟨g,0,none⟩)),none]:List (Option Value)) L vs) rfl (by kernel_rfl) (by rfl) (fun vs=>?_) ?_ ?_
  ·refine⟨?_,fun k v _ h=>by rw[getD_replicate_false] at h;cases h⟩
   unfold stg
   rw[getD_replicate_false,getD_replicate_false,if_neg (by simp),if_neg (by simp)]
   all_goals exact rfl
  ·intro i hi o ho L vs w8 hls hun hwt hcl hI
   have hun2:=und' hun
   rcases (show i=0 ∨ i=1 ∨ i=2 ∨ i=3 ∨ i=4 ∨ i=5 ∨ i=6 ∨ i=7 ∨ i=8 ∨ i=9 ∨ i=10 ∨ i=11 ∨ i=12 ∨ i=13 ∨ i=14 ∨ i=15 ∨ i=16 by omega) with rfl | rfl | rfl | rfl | rfl | rfl | rfl | rfl | rfl | rfl | rfl | rfl | rfl | rfl | rfl | rfl | rfl <;> cases ho
   ·have n2:L.getD 16 false=false:=hcl.nd hun2 (by kernel_rfl)
    have hw:w8=stg L 13 w.drew W1:=hI.1.trans (stg_no _ _ n2)
    have ec:w8.cell? ⟨p,0,none⟩=some (.pointer (some ⟨g,0,none⟩)):=by rw[hw];exact stg_fact (fun w:World=>w.cell? ⟨p,0,none⟩=some (.pointer (some ⟨g,0,none⟩):Value)) HF.out.2.1 HF.out.2.2.2.2.1
    have hI2:=lh (And.intro hI (And.intro hls hw))
    clear hI hwt hun hun2 hcl hls n2 hw
    change Made _ _ (Sem.run _ (execOp (Act.eval (frm _ _ _ [])) _) _)
    simp only[frm]
    go_simp
    refine made_ok ⟨?_,hI2.out.1.2.put fun x hx=>by cases hx;rfl⟩
    rw[stg_set _ _ (by decide),stg_set _ _ (by decide)]
    exact hI2.out.1.1
   ·have n2:L.getD 16 false=false:=hcl.nd hun2 (by kernel_rfl)
    have hw:w8=stg L 13 w.drew W1:=hI.1.trans (stg_no _ _ n2)
    have ec:w8.cell? ⟨p,0,none⟩=some (.pointer (some ⟨g,0,none⟩)):=by rw[hw];exact stg_fact (fun w:World=>w.cell? ⟨p,0,none⟩=some (.pointer (some ⟨g,0,none⟩):Value)) HF.out.2.1 HF.out.2.2.2.2.1
    have hI2:=lh (And.intro hI (And.intro hls hw))
    clear hI hwt hun hun2 hcl hls n2 hw
    change Made _ _ (Sem.run _ (execOp (Act.eval (frm _ _ _ [])) _) _)
    simp only[frm]
    go_simp
    refine made_ok ⟨?_,hI2.out.1.2.put fun x hx=>by cases hx;rfl⟩
    rw[stg_set _ _ (by decide),stg_set _ _ (by decide)]
    exact hI2.out.1.1
   ·have h1:vs 1=.pointer (some ⟨g,0,none⟩):=hI.2 1 _ rfl (hwt 1 (by kernel_rfl))
    have n2:L.getD 16 false=false:=hcl.nd hun2 (by kernel_rfl)
    have hw:w8=stg L 13 w.drew W1:=hI.1.trans (stg_no _ _ n2)
    have hI2:=lh (And.intro hI (And.intro hls hw))
    clear hI hwt hun hun2 hcl hls n2 hw
    change Made _ _ (Sem.run _ (execOp (Act.eval (Act.put (frm _ _ _ []) (some 19) (vs 1))) _) _)
    simp only[frm,h1]
    go_simp
    refine made_ok ⟨?_,hI2.out.1.2.put fun x hx=>by cases hx;rfl⟩
    rw[stg_set _ _ (by decide),stg_set _ _ (by decide)]
    exact hI2.out.1.1
   ·have h2:vs 2=.pointer (some ⟨g,0,none⟩):=hI.2 2 _ rfl (hwt 2 (by kernel_rfl))
    have n2:L.getD 16 false=false:=hcl.nd hun2 (by kernel_rfl)
    have hw:w8=stg L 13 w.drew W1:=hI.1.trans (stg_no _ _ n2)
    have hI2:=lh (And.intro hI (And.intro hls hw))
    clear hI hwt hun hun2 hcl hls n2 hw
    change Made _ _ (Sem.run _ (execOp (Act.eval (Act.put (frm _ _ _ []) (some 20) (vs 2))) _) _)
    simp only[frm,h2]
    go_simp
    refine made_ok ⟨?_,hI2.out.1.2.put fun x hx=>by cases hx;rfl⟩
    rw[stg_set _ _ (by decide),stg_set _ _ (by decide)]
    exact hI2.out.1.1
   ·have h3:vs 3=.pointer (some ⟨g,0,none⟩):=hI.2 3 _ rfl (hwt 3 (by kernel_rfl))
    have n2:L.getD 16 false=false:=hcl.nd hun2 (by kernel_rfl)
    have hw:w8=stg L 13 w.drew W1:=hI.1.trans (stg_no _ _ n2)
    have ec:w8.cell? ⟨g,0,none⟩=some (.slice (some ⟨b',o,none⟩) (t.length+1) c):=by rw[hw];exact stg_fact (fun w:World=>w.cell? ⟨g,0,none⟩=some (.slice (some ⟨b',o,none⟩) (t.length+1) c:Value)) HF2.out.1 HF2.out.2
    have hI2:=lh (And.intro hI (And.intro hls hw))
    clear hI hwt hun hun2 hcl hls n2 hw
    change Made _ _ (Sem.run _ (execOp (Act.eval (Act.put (frm _ _ _ []) (some 21) (vs 3))) _) _)
    simp only[frm,h3]
    go_simp
    refine made_ok ⟨?_,hI2.out.1.2.put fun x hx=>by cases hx;rfl⟩
    rw[stg_set _ _ (by decide),stg_set _ _ (by decide)]
    exact hI2.out.1.1
   ·have h4:vs 4=.slice (some ⟨b',o,none⟩) (t.length+1) c:=hI.2 4 _ rfl (hwt 4 (by kernel_rfl))
    have n2:L.getD 16 false=false:=hcl.nd hun2 (by kernel_rfl)
    have hw:w8=stg L 13 w.drew W1:=hI.1.trans (stg_no _ _ n2)
    have hcn:¬ c=1:=hc1
    have hc2:¬ 1=c:=fun e=>hc1 e.symm
    have hle9:1≤t.length+1:=by omega
    have hle8:(1:Int)≤(t.length:Int)+1:=by omega
    have hI2:=lh (And.intro hI (And.intro hls hw))
    clear hI hwt hun hun2 hcl hls n2 hw
    change Made _ _ (Sem.run _ (execOp (Act.eval (Act.put (frm _ _ _ []) (some 22) (vs 4))) _) _)
    simp only[frm,h4]
    go_simp
    refine made_ok ⟨?_,hI2.out.1.2.put fun x hx=>by cases hx;rfl⟩
    rw[stg_set _ _ (by decide),stg_set _ _ (by decide)]
    exact hI2.out.1.1
   ·have h5:vs 5=.pointer (some ⟨b',o,none⟩):=hI.2 5 _ rfl (hwt 5 (by kernel_rfl))
    have n2:L.getD 16 false=false:=hcl.nd hun2 (by kernel_rfl)
    have hw:w8=stg L 13 w.drew W1:=hI.1.trans (stg_no _ _ n2)
    have ec:w8.cell? ⟨b',o,none⟩=some (.int .u8 x):=by rw[hw];exact stg_fact (fun w:World=>w.cell? ⟨b',o,none⟩=some (.int .u8 x:Value)) HF.out.2.2.1 HF.out.2.2.2.2.2.1
    have hI2:=lh (And.intro hI (And.intro hls hw))
    clear hI hwt hun hun2 hcl hls n2 hw
    change Made _ _ (Sem.run _ (execOp (Act.eval (Act.put (frm _ _ _ []) (some 23) (vs 5))) _) _)
    simp only[frm,h5]
    go_simp
    refine made_ok ⟨?_,hI2.out.1.2.put fun x hx=>by cases hx;rfl⟩
    rw[stg_set _ _ (by decide),stg_set _ _ (by decide)]
    exact hI2.out.1.1
   ·have h6:vs 6=.int .u8 x:=hI.2 6 _ rfl (hwt 6 (by kernel_rfl))
    have n2:L.getD 16 false=false:=hcl.nd hun2 (by kernel_rfl)
    have hw:w8=stg L 13 w.drew W1:=hI.1.trans (stg_no _ _ n2)
    have hXX:(x == 1)=X:=by rw[HX.out];rfl
    have hI2:=lh (And.intro hI (And.intro hls hw))
    clear hI hwt hun hun2 hcl hls n2 hw
    change Made _ _ (Sem.run _ (execOp (Act.eval (Act.put (frm _ _ _ []) (some 24) (vs 6))) _) _)
    simp only[frm,h6]
    go_simp
    refine made_ok ⟨?_,hI2.out.1.2.put fun x hx=>by cases hx;rfl⟩
    rw[stg_set _ _ (by decide),stg_set _ _ (by decide)]
    exact hI2.out.1.1
   ·have n2:L.getD 16 false=false:=hcl.nd hun2 (by kernel_rfl)
    have hw:w8=stg L 13 w.drew W1:=hI.1.trans (stg_no _ _ n2)
    have ec:w8.cell? ⟨p,0,none⟩=some (.pointer (some ⟨g,0,none⟩)):=by rw[hw];exact stg_fact (fun w:World=>w.cell? ⟨p,0,none⟩=some (.pointer (some ⟨g,0,none⟩):Value)) HF.out.2.1 HF.out.2.2.2.2.1
    have hI2:=lh (And.intro hI (And.intro hls hw))
    clear hI hwt hun hun2 hcl hls n2 hw
    change Made _ _ (Sem.run _ (execOp (Act.eval (frm _ _ _ [])) _) _)
    simp only[frm]
    go_simp
    refine made_ok ⟨?_,hI2.out.1.2.put fun x hx=>by cases hx;rfl⟩
    rw[stg_set _ _ (by decide),stg_set _ _ (by decide)]
    exact hI2.out.1.1
   ·have h8:vs 8=.pointer (some ⟨g,0,none⟩):=hI.2 8 _ rfl (hwt 8 (by kernel_rfl))
    have n2:L.getD 16 false=false:=hcl.nd hun2 (by kernel_rfl)
    have hw:w8=stg L 13 w.drew W1:=hI.1.trans (stg_no _ _ n2)
    have hI2:=lh (And.intro hI (And.intro hls hw))
    clear hI hwt hun hun2 hcl hls n2 hw
    change Made _ _ (Sem.run _ (execOp (Act.eval (Act.put (frm _ _ _ []) (some 26) (vs 8))) _) _)
    simp only[frm,h8]
    go_simp
    refine made_ok ⟨?_,hI2.out.1.2.put fun x hx=>by cases hx;rfl⟩
    rw[stg_set _ _ (by decide),stg_set _ _ (by decide)]
    exact hI2.out.1.1
   ·have h9:vs 9=.pointer (some ⟨g,0,none⟩):=hI.2 9 _ rfl (hwt 9 (by kernel_rfl))
    have n2:L.getD 16 false=false:=hcl.nd hun2 (by kernel_rfl)
    have hw:w8=stg L 13 w.drew W1:=hI.1.trans (stg_no _ _ n2)
    have hI2:=lh (And.intro hI (And.intro hls hw))
    clear hI hwt hun hun2 hcl hls n2 hw
    change Made _ _ (Sem.run _ (execOp (Act.eval (Act.put (frm _ _ _ []) (some 27) (vs 9))) _) _)
    simp only[frm,h9]
    go_simp
    refine made_ok ⟨?_,hI2.out.1.2.put fun x hx=>by cases hx;rfl⟩
    rw[stg_set _ _ (by decide),stg_set _ _ (by decide)]
    exact hI2.out.1.1
   ·have h10:vs 10=.pointer (some ⟨g,0,none⟩):=hI.2 10 _ rfl (hwt 10 (by kernel_rfl))
    have n2:L.getD 16 false=false:=hcl.nd hun2 (by kernel_rfl)
    have hw:w8=stg L 13 w.drew W1:=hI.1.trans (stg_no _ _ n2)
    have ec:w8.cell? ⟨g,0,none⟩=some (.slice (some ⟨b',o,none⟩) (t.length+1) c):=by rw[hw];exact stg_fact (fun w:World=>w.cell? ⟨g,0,none⟩=some (.slice (some ⟨b',o,none⟩) (t.length+1) c:Value)) HF2.out.1 HF2.out.2
    have hI2:=lh (And.intro hI (And.intro hls hw))
    clear hI hwt hun hun2 hcl hls n2 hw
    change Made _ _ (Sem.run _ (execOp (Act.eval (Act.put (frm _ _ _ []) (some 28) (vs 10))) _) _)
    simp only[frm,h10]
    go_simp
    refine made_ok ⟨?_,hI2.out.1.2.put fun x hx=>by cases hx;rfl⟩
    rw[stg_set _ _ (by decide),stg_set _ _ (by decide)]
    exact hI2.out.1.1
   ·have h11:vs 11=.slice (some ⟨b',o,none⟩) (t.length+1) c:=hI.2 11 _ rfl (hwt 11 (by kernel_rfl))
    have n2:L.getD 16 false=false:=hcl.nd hun2 (by kernel_rfl)
    have hw:w8=stg L 13 w.drew W1:=hI.1.trans (stg_no _ _ n2)
    have hcn:¬ c=1:=hc1
    have hc2:¬ 1=c:=fun e=>hc1 e.symm
    have hle9:1≤t.length+1:=by omega
    have hle8:(1:Int)≤(t.length:Int)+1:=by omega
    have hI2:=lh (And.intro hI (And.intro hls hw))
    clear hI hwt hun hun2 hcl hls n2 hw
    change Made _ _ (Sem.run _ (execOp (Act.eval (Act.put (frm _ _ _ []) (some 29) (vs 11))) _) _)
    simp only[frm,h11]
    go_simp
    refine made_ok ⟨?_,hI2.out.1.2.put fun x hx=>by cases hx;rfl⟩
    rw[stg_set _ _ (by decide),stg_set _ _ (by decide)]
    exact hI2.out.1.1
   ·have h7:vs 7=.bool X:=hI.2 7 _ rfl (hwt 7 (by kernel_rfl))
    have n2:L.getD 16 false=false:=hcl.nd hun2 (by kernel_rfl)
    have hw:w8=w.drew:=hI.1.trans ((stg_no _ _ n2).trans (stg_no _ _ hun2))
    subst hw
    have es:=HF.out.2.2.2.2.2.2.1
    have ef:=HF.out.2.2.2.2.2.2.2.1
    have hI2:=lh (And.intro hI (And.intro hls n2))
    clear hI hwt hun hun2 hcl hls n2
    change Made _ _ (Sem.run _ (execOp (Act.eval (Act.put (frm _ _ _ []) (some 25) (vs 7))) _) _)
    simp only[frm,h7]
    go_simp
    refine made_skip ⟨?_,hI2.out.1.2.put fun x hx=>by cases hx⟩
    rw[stg_set _ _ (by decide),stg_no _ _ hI2.out.2.2,stg_new _ _ (by rw[hI2.out.2.1];decide)]
    exact HW1.out.symm
   ·have h0:vs 0=.pointer (some ⟨g,0,none⟩):=hI.2 0 _ rfl (hwt 0 (by kernel_rfl))
    have n15_:L.getD 15 false=false:=hcl.nd hun2 (by kernel_rfl)
    have n2:L.getD 16 false=false:=hcl.nd n15_ (by kernel_rfl)
    have hw:w8=stg L 13 w.drew W1:=hI.1.trans (stg_no _ _ n2)
    have hI2:=lh (And.intro hI (And.intro hls hw))
    clear hI hwt hun hun2 hcl hls n2 hw
    change Made _ _ (Sem.run _ (execOp (Act.eval (Act.put (frm _ _ _ []) (some 18) (vs 0))) _) _)
    simp only[frm,h0]
    go_simp
    refine made_ok ⟨?_,hI2.out.1.2.put fun x hx=>by cases hx;rfl⟩
    rw[stg_set _ _ (by decide),stg_set _ _ (by decide)]
    exact hI2.out.1.1
   ·have h14:vs 14=.pointer (some ⟨g,0,none⟩):=hI.2 14 _ rfl (hwt 14 (by kernel_rfl))
    have n2:L.getD 16 false=false:=hcl.nd hun2 (by kernel_rfl)
    have hw:w8=stg L 13 w.drew W1:=hI.1.trans (stg_no _ _ n2)
    have hI2:=lh (And.intro hI (And.intro hls hw))
    clear hI hwt hun hun2 hcl hls n2 hw
    change Made _ _ (Sem.run _ (execOp (Act.eval (Act.put (frm _ _ _ []) (some 31) (vs 14))) _) _)
    simp only[frm,h14]
    go_simp
    refine made_ok ⟨?_,hI2.out.1.2.put fun x hx=>by cases hx;rfl⟩
    rw[stg_set _ _ (by decide),stg_set _ _ (by decide)]
    exact hI2.out.1.1
   ·have h12:vs 12=.slice (some ⟨b',o+1,none⟩) t.length (c - 1):=hI.2 12 _ rfl (hwt 12 (by kernel_rfl))
    have h15:vs 15=.pointer (some ⟨g,0,none⟩):=hI.2 15 _ rfl (hwt 15 (by kernel_rfl))
    have hw:w8=W1:=hI.1.trans ((stg_no _ _ hun2).trans (stg_done _ _ (hwt 13 (by kernel_rfl))))
    subst hw
    have es:=HF2.out.2
    have ef:=HF.out.2.2.2.2.2.2.2.2
    have hI2:=lh (And.intro hI hls)
    clear hI hwt hun hun2 hcl hls
    change Made _ _ (Sem.run _ (execOp (Act.eval (Act.put (Act.put (frm _ _ _ []) (some 32) (vs 15)) (some 30) (vs 12))) _) _)
    simp only[frm,h12,h15]
    go_simp
    refine made_skip ⟨?_,hI2.out.1.2.put fun x hx=>by cases hx⟩
    rw[stg_new _ _ (by rw[hI2.out.2];decide)]
    exact HW2.out.symm
  ·intro L vs w8 hls hall hI
   have hw:w8=W2:=hI.1.trans (stg_done _ _ (hall 16 (by decide)))
   have h0:vs 0=.pointer (some ⟨g,0,none⟩):=hI.2 0 _ rfl (hall 0 (by decide))
   have h1:vs 1=.pointer (some ⟨g,0,none⟩):=hI.2 1 _ rfl (hall 1 (by decide))
   have h2:vs 2=.pointer (some ⟨g,0,none⟩):=hI.2 2 _ rfl (hall 2 (by decide))
   have h3:vs 3=.pointer (some ⟨g,0,none⟩):=hI.2 3 _ rfl (hall 3 (by decide))
   have h4:vs 4=.slice (some ⟨b',o,none⟩) (t.length+1) c:=hI.2 4 _ rfl (hall 4 (by decide))
   have h5:vs 5=.pointer (some ⟨b',o,none⟩):=hI.2 5 _ rfl (hall 5 (by decide))
   have h6:vs 6=.int .u8 x:=hI.2 6 _ rfl (hall 6 (by decide))
   have h7:vs 7=.bool X:=hI.2 7 _ rfl (hall 7 (by decide))
   have h8:vs 8=.pointer (some ⟨g,0,none⟩):=hI.2 8 _ rfl (hall 8 (by decide))
   have h9:vs 9=.pointer (some ⟨g,0,none⟩):=hI.2 9 _ rfl (hall 9 (by decide))
   have h10:vs 10=.pointer (some ⟨g,0,none⟩):=hI.2 10 _ rfl (hall 10 (by decide))
   have h11:vs 11=.slice (some ⟨b',o,none⟩) (t.length+1) c:=hI.2 11 _ rfl (hall 11 (by decide))
   have h12:vs 12=.slice (some ⟨b',o+1,none⟩) t.length (c - 1):=hI.2 12 _ rfl (hall 12 (by decide))
   have h14:vs 14=.pointer (some ⟨g,0,none⟩):=hI.2 14 _ rfl (hall 14 (by decide))
   have h15:vs 15=.pointer (some ⟨g,0,none⟩):=hI.2 15 _ rfl (hall 15 (by decide))
   change wpList _ _ _ [] (Act.put (Act.put (Act.put (Act.put (Act.put (Act.put (Act.put (Act.put (Act.put (Act.put (Act.put (Act.put (Act.put (Act.put (Act.put (Act.put (Act.put (frm _ _ _ []) none (vs 16)) (some 32) (vs 15)) (some 31) (vs 14)) none (vs 13)) (some 30) (vs 12)) (some 29) (vs 11)) (some 28) (vs 10)) (some 27) (vs 9)) (some 26) (vs 8)) (some 25) (vs 7)) (some 24) (vs 6)) (some 23) (vs 5)) (some 22) (vs 4)) (some 21) (vs 3)) (some 20) (vs 2)) (some 19) (vs 1)) (some 18) (vs 0)) _
   simp only[frm,h0,h1,h2,h3,h4,h5,h6,h7,h8,h9,h10,h11,h12,h14,h15]
   generalize vs 13=vz13
   generalize vs 16=vz16
   rw[hw]
   clear hw hI hall hls h0 h1 h2 h3 h4 h5 h6 h7 h8 h9 h10 h11 h12 h14 h15
   have HT8:Hid (B8 t):=lh fun y hy=>H.out.b8 y (by simp[hy])
   have HSD:Hid (Sl W2 1 (some ⟨b',o+1,none⟩) t.length (byts t)):=lh (by
    refine⟨by rw[byts_len,Nat.mul_one],.inr ⟨b',o+1,rfl,Nat.lt_of_lt_of_le HC.out.1 (by rw[HW2.out,HW1.out];simp),fun j y hy=>?_⟩⟩
    rw[HW2.out,HW1.out]
    have h2:=HC.out.2 (1+j) y (by rw[show 1+j=j+1 by omega];exact hy)
    rw[show o+(1+j)=o+1+j by omega] at h2
    refine(World.cell?_of_block (a:=⟨b',o+1+j,none⟩) ?_).trans h2
    exact(Below.heap_setCell _ _ _ _ (fun e=>H.out.ne e)).trans (Below.heap_setCell _ _ _ _ (fun e=>hsb e.symm)))
   have HK2:Hid (Kp (fun k=>k=g ∨ k=s) w W2):=lh (by rw[HW2.out];exact(HB1.out.2.2.mono (T:=fun k=>k=g ∨ k=s) fun _ _ h=>.inr h).trans (Kp.setCell (S:=fun k=>k=g) _ ⟨g,0,none⟩ _ rfl) fun _ _ h=>.inl h)
   have HS2:Hid (Bk W2 s 4 #[.bool X]):=lh (by rw[HW2.out];exact HB1.out.2.1.far (p:=⟨g,0,none⟩) (fun e=>HNE.out.1 e.symm) _)
   clear HF HF2
   go_wp2_with fail
   go_ret
   exact⟨rfl,⟨some ⟨b',o+1,none⟩,c - 1,⟨by rw[HW2.out];exact HB1.out.1.set 0 _,by have:=H.out.cap;dsimp only at this ⊢;rw[List.length_cons] at this;omega,by omega,HSD.out,fun b o m e=>(by cases e;exact⟨rfl,rfl⟩),fun e=>(by cases e),H.out.ne,HT8.out⟩⟩,by have h9:=HS2.out;rw[HX.out] at h9;exact h9,HK2.out⟩
end
end
end Go.Proofs.YtmbnlccafcfbeaaGreatDoor
