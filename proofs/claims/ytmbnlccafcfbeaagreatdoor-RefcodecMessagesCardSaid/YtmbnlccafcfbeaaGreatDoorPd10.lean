/- Parts of the proof: RcC. -/
import Derived.Test.YtmbnlccafcfbeaaGreatDoorPdA
import Derived.Test.YtmbnlccafcfbeaaGreatDoorPd9
set_option linter.unusedVariables false
set_option linter.unusedSimpArgs false
set_option linter.unusedSectionVars false
set_option maxRecDepth 100000
namespace Go.Proofs.YtmbnlccafcfbeaaGreatDoor
section
open Go.RowKit
attribute [local go_sem] Oper.semAt_some
def encId (x:Int × Int):List Int:=encI x.1++encI x.2
def decId (r:Rd):(Int × Int) × Rd:=let a:=r.i;let b:=a.2.i;((a.1,b.1),b.2)
theorem stp_id {s s0_ s1_:Fs} {x:Int × Int} {y0_:Int} {y1_:Int} (h0:(s0_,y0_)=stp encI Rd.i s x.1) (h1:(s1_,y1_)=stp encI Rd.i s0_ x.2):stp encId decId s x=(s1_,(y0_,y1_)):=by
 cases s with
 | w l =>
  obtain⟨rfl,rfl⟩:=Prod.mk.inj h0
  obtain⟨rfl,rfl⟩:=Prod.mk.inj h1
  simp[stp,encId,encId,List.append_assoc]
 | r rd =>
  obtain⟨rfl,rfl⟩:=Prod.mk.inj h0
  obtain⟨rfl,rfl⟩:=Prod.mk.inj h1
  rfl
section
variable {E:Env} {N:Nat→Prop} {t:TypeId} {b o:Nat} {pre post:List Value} {w:World} {s:Fs} {x:Int × Int}
set_option maxHeartbeats 8000000 in
theorem id_any (hF:Fm E N w s) (hH:Hd E N t b pre post s.md w [.int .i64 x.1,.int .i64 x.2]) (ho:pre.length=o) (hx:I64 x.1∧I64 x.2) (hf:s.fit (encId x).length):Calls Tryz.prog 69 #[.pointer (some ⟨E.gf,0,none⟩),.pointer (some ⟨b,o,none⟩)] w (StP E N t b pre post (stp encId decId s x).1 s.md ((fun x:Int × Int=>([.int .i64 x.1,.int .i64 x.2]:List Value)) (stp encId decId s x).2) w):=by
 obtain⟨gf,hgf⟩:∃ gf,gf=E.gf:=⟨_,rfl⟩
 obtain⟨m,hm⟩:∃ m,m=s.md:=⟨_,rfl⟩
 obtain⟨⟨s0_,y0_⟩,hq0⟩:∃ p,p=stp encI Rd.i s x.1:=⟨_,rfl⟩
 obtain⟨⟨s1_,y1_⟩,hq1⟩:∃ p,p=stp encI Rd.i s0_ x.2:=⟨_,rfl⟩
 rw[stp_id hq0 hq1]
 have hm0:s.md=m:=hm.symm
 have hm1:=md_next hq0 hm0
 have hm2:=md_next hq1 hm1
 have hf0:s.fit ((encI x.1).length+((encI x.2).length+(0))):=hf.mono (by unfold encId;(try unfold encId);simp only[List.length_append];omega)
 have hf1:s0_.fit ((encI x.2).length+(0)):=fit_next hq0 hf0
 have hf2:s1_.fit (0):=fit_next hq1 hf1
 have HM0:=lh hm0
 have HFT0:=lh hf0
 have HM1:=lh hm1
 have HFT1:=lh hf1
 have HM2:=lh hm2
 have HFT2:=lh hf2
 have HQ0:=lh hq0
 have HQ1:=lh hq1
 have HX:=lh hx
 have HO:=lh ho
 have HGF:=lh hgf
 rw[← hgf,← hm]
 rw[← hm] at hH
 have HBL:Hid (b < w.heap.size):=lh (hH.lt (by simp))
 have HF:=lh hF
 have HH:=lh hH
 clear hgf hm hF hH ho hx hf hq0 hq1 hm0 hf0 hm1 hf1 hm2 hf2
 go_enter Tryz.func69,Tryz.ntmps69
 refine wp_seq 9 (fun i=>([[],[],[1],[2],[],[4],[5],[3,6],[0,7]]:List (List Nat)).getD i []) [7,8] (fun i=>([1,0,0,0,0,0,0,0,0]:List Nat).getD i 0) (fun i=>([.pointer (some ⟨gf,0,none⟩),.pointer (some ⟨b,o,none⟩),.pointer (some ⟨b,o,none⟩),.pointer (some ⟨b,o,none⟩),.pointer (some ⟨b,o,none⟩),.pointer (some ⟨b,o,none⟩),.pointer (some ⟨b,o+1,none⟩),.bool false,.bool false]:List Value).getD i (.bool false)) (CmS (Below w.heap.size w) (fun v w1=>Below w.heap.size w w1∧∃ q,v=.slice (some ⟨q,0,none⟩) 2 2∧Bk w1 q 105 #[.pointer (some ⟨b,o,none⟩),.pointer (some ⟨b,o+1,none⟩)]∧w.heap.size≤q) (fun w1=>StP E N t b pre post (stpN s [x.1,x.2] 2).1 s.md (updI [.int .i64 x.1,.int .i64 x.2] [0,1] (stpN s [x.1,x.2] 2).2) w (.returned (.tuple #[])) w1)) rfl (by kernel_rfl) (by rfl) (by kernel_rfl) ?_ ?_ ?_ ?_
 ·exact(Below.refl _ _).drew
 ·intro i hi hn o ho k vs w1 hk hlow hS hvs
  rcases (show i=0 ∨ i=1 ∨ i=2 ∨ i=3 ∨ i=4 ∨ i=5 ∨ i=6 ∨ i=7 ∨ i=8 by omega) with rfl | rfl | rfl | rfl | rfl | rfl | rfl | rfl | rfl <;> cases ho
  ·clear hS hvs hlow hk hn
   change Sem.run _ (execOp (Act.eval (frm _ _ _ [])) _) _=_
   simp only[frm]
   go_simp
  ·clear hS hvs hlow hk hn
   change Sem.run _ (execOp (Act.eval (frm _ _ _ [])) _) _=_
   simp only[frm]
   go_simp
  ·have h1:vs 1=.pointer (some ⟨b,o,none⟩):=hvs 1 (by decide) (by decide)
   clear hS hvs hlow hk hn
   change Sem.run _ (execOp (Act.eval (Act.put (frm _ _ _ []) (some 5) (vs 1))) _) _=_
   simp only[frm,h1]
   go_simp
  ·have h2:vs 2=.pointer (some ⟨b,o,none⟩):=hvs 2 (by decide) (by decide)
   clear hS hvs hlow hk hn
   change Sem.run _ (execOp (Act.eval (Act.put (frm _ _ _ []) (some 6) (vs 2))) _) _=_
   simp only[frm,h2]
   go_simp
  ·clear hS hvs hlow hk hn
   change Sem.run _ (execOp (Act.eval (frm _ _ _ [])) _) _=_
   simp only[frm]
   go_simp
  ·have h4:vs 4=.pointer (some ⟨b,o,none⟩):=hvs 4 (by decide) (by decide)
   clear hS hvs hlow hk hn
   change Sem.run _ (execOp (Act.eval (Act.put (frm _ _ _ []) (some 8) (vs 4))) _) _=_
   simp only[frm,h4]
   go_simp
  ·have h5:vs 5=.pointer (some ⟨b,o,none⟩):=hvs 5 (by decide) (by decide)
   clear hS hvs hlow hk hn
   change Sem.run _ (execOp (Act.eval (Act.put (frm _ _ _ []) (some 9) (vs 5))) _) _=_
   simp only[frm,h5]
   go_simp
  ·exact absurd (by decide) hn
  ·exact absurd (by decide) hn
 ·intro p hp o ho vs w1 hS hvs
  rcases (show p=0 ∨ p=1 by change p < 2 at hp;omega) with rfl | rfl <;> cases ho
  ·replace hS:Below w.heap.size w w1:=hS
   have h3:vs 3=.pointer (some ⟨b,o,none⟩):=hvs 3 (by decide) (by decide)
   have h6:vs 6=.pointer (some ⟨b,o+1,none⟩):=hvs 6 (by decide) (by decide)
   show Made _ (fun v w1=>Below w.heap.size w w1∧∃ q,v=.slice (some ⟨q,0,none⟩) 2 2∧Bk w1 q 105 #[.pointer (some ⟨b,o,none⟩),.pointer (some ⟨b,o+1,none⟩)]∧w.heap.size≤q) _
   change Made _ _ (Sem.run _ (execOp (Act.eval (Act.put (Act.put (frm _ _ _ []) (some 10) (vs 6)) (some 7) (vs 3))) _) _)
   simp only[frm,h3,h6]
   have HB1:=lh hS
   clear hS hvs h3 h6
   go_simp
   exact made_ok ⟨HB1.out.alloc HB1.out.size _,_,rfl,Bk.new _ _ _,HB1.out.size⟩
  ·replace hS:(fun v w1=>Below w.heap.size w w1∧∃ q,v=.slice (some ⟨q,0,none⟩) 2 2∧Bk w1 q 105 #[.pointer (some ⟨b,o,none⟩),.pointer (some ⟨b,o+1,none⟩)]∧w.heap.size≤q) (vs 7) w1:=hS
   have h0:vs 0=.pointer (some ⟨gf,0,none⟩):=hvs 0 (by decide) (by decide)
   show Made _ (fun _=>fun w1=>StP E N t b pre post (stpN s [x.1,x.2] 2).1 s.md (updI [.int .i64 x.1,.int .i64 x.2] [0,1] (stpN s [x.1,x.2] 2).2) w (.returned (.tuple #[])) w1) _
   change Made _ _ (Sem.run _ (execOp (Act.eval (Act.put (Act.put (frm _ _ _ []) (some 11) (vs 7)) (some 4) (vs 0))) _) _)
   obtain⟨hb1,q,hq,hbk,hqs⟩:=hS
   simp only[frm,h0,hq]
   have cM:=small_any (pre:=pre) (post:=post) (js:=[0,1]) (xs:=[x.1,x.2]) (HF.out.below hb1) ((show Hd E N t b pre post s.md w _ by rw[HM0.out];exact HH.out).below hb1) HO.out (show Bk w1 q 105 ([0,1].map fun j=>Value.pointer (some ⟨b,o+j,none⟩)).toArray from hbk) (by have:=HBL.out;omega) (nreader HF.out (by omega)) rfl (by decide) (idx2 rfl rfl) (by simp only[List.mem_cons,List.not_mem_nil,or_false,forall_eq_or_imp,forall_eq];exact HX.out) (HFT0.out.mono (by unfold encIs;simp only[List.flatMap_cons,List.flatMap_nil,List.length_append,List.length_nil];omega)) (by decide)
   rw[← HGF.out] at cM
   have HB1:=lh hb1
   clear hvs hbk hq hqs hb1 h0
   go_simp
   exact made_call (cM.mono fun e w2 ⟨he,h1,h2,h3⟩=>⟨_,he,rfl,h1,h2,(Fr.ofBelow HB1.out).trans h3⟩)
 ·intro vs w5 hS hvs
  replace hS:(fun w1=>StP E N t b pre post (stpN s [x.1,x.2] 2).1 s.md (updI [.int .i64 x.1,.int .i64 x.2] [0,1] (stpN s [x.1,x.2] 2).2) w (.returned (.tuple #[])) w1) w5:=hS
  change wpList _ _ _ [] (Act.put (Act.put (Act.put (Act.put (Act.put (Act.put (Act.put (Act.put (Act.put (frm _ _ _ []) (some 12) (vs 8)) (some 11) (vs 7)) (some 10) (vs 6)) (some 9) (vs 5)) (some 8) (vs 4)) (some 7) (vs 3)) (some 6) (vs 2)) (some 5) (vs 1)) (some 4) (vs 0)) _
  simp only[frm]
  clear hvs
  generalize vs 0=z0
  generalize vs 1=z1
  generalize vs 2=z2
  generalize vs 3=z3
  generalize vs 4=z4
  generalize vs 5=z5
  generalize vs 6=z6
  generalize vs 7=z7
  generalize vs 8=z8
  obtain⟨_,hF5,hH5,hfr5⟩:=hS
  rw[stpN2 HQ0.out HQ1.out] at hF5 hH5
  rw[HM0.out] at hH5 hfr5
  replace hH5:Hd E N t b pre post m w5 [.int .i64 y0_,.int .i64 y1_]:=hH5
  replace hF5:Fm E N w5 s1_:=hF5
  have HF0_:=lh hF5
  have HH0_:=lh hH5
  have HFR0_:=lh hfr5
  clear hF5 hH5 hfr5
  go_wp2_with fail
  go_end0
  exact⟨rfl,HF0_.out,HH0_.out,HFR0_.out⟩
end
theorem stp_ref {s s0_ s1_ s2_ s3_ s4_ s5_ s6_:Fs} {x:Rf} {y0_:Int} {y1_:Int} {y2_:Int} {y3_:Int} {y4_:Int} {y5_:Int × Int} {y6_:Bool} (h0:(s0_,y0_)=stp encI Rd.i s x.kind) (h1:(s1_,y1_)=stp encI Rd.i s0_ x.owner) (h2:(s2_,y2_)=stp encI Rd.i s1_ x.cls) (h3:(s3_,y3_)=stp encI Rd.i s2_ x.int) (h4:(s4_,y4_)=stp encU Rd.u s3_ x.number) (h5:(s5_,y5_)=stp encId decId s4_ (x.idm,x.ids)) (h6:(s6_,y6_)=stp encB Rd.bool s5_ x.weak):stp encRf decRf s x=(s6_,(⟨y0_,y3_,y1_,y4_,y5_.1,y5_.2,y2_,y6_⟩:Rf)):=by
 cases s with
 | w l =>
  obtain⟨rfl,rfl⟩:=Prod.mk.inj h0
  obtain⟨rfl,rfl⟩:=Prod.mk.inj h1
  obtain⟨rfl,rfl⟩:=Prod.mk.inj h2
  obtain⟨rfl,rfl⟩:=Prod.mk.inj h3
  obtain⟨rfl,rfl⟩:=Prod.mk.inj h4
  obtain⟨rfl,rfl⟩:=Prod.mk.inj h5
  obtain⟨rfl,rfl⟩:=Prod.mk.inj h6
  simp[stp,encRf,encId,List.append_assoc]
 | r rd =>
  obtain⟨rfl,rfl⟩:=Prod.mk.inj h0
  obtain⟨rfl,rfl⟩:=Prod.mk.inj h1
  obtain⟨rfl,rfl⟩:=Prod.mk.inj h2
  obtain⟨rfl,rfl⟩:=Prod.mk.inj h3
  obtain⟨rfl,rfl⟩:=Prod.mk.inj h4
  obtain⟨rfl,rfl⟩:=Prod.mk.inj h5
  obtain⟨rfl,rfl⟩:=Prod.mk.inj h6
  rfl
section
variable {E:Env} {N:Nat→Prop} {t:TypeId} {b o:Nat} {pre post:List Value} {w:World} {s:Fs} {x:Rf}
set_option maxHeartbeats 8000000 in
theorem ref_any (hF:Fm E N w s) (hH:Hd E N t b pre post s.md w [.int .i64 x.kind,.int .i64 x.int,.int .i64 x.owner,.int .u64 x.number,.int .i64 x.idm,.int .i64 x.ids,.int .i64 x.cls,.bool x.weak]) (ho:pre.length=o) (hx:rfP x) (hf:s.fit (encRf x).length):Calls Tryz.prog 42 #[.pointer (some ⟨E.gf,0,none⟩),.pointer (some ⟨b,o,none⟩)] w (StP E N t b pre post (stp encRf decRf s x).1 s.md ((fun x:Rf=>([.int .i64 x.kind,.int .i64 x.int,.int .i64 x.owner,.int .u64 x.number,.int .i64 x.idm,.int .i64 x.ids,.int .i64 x.cls,.bool x.weak]:List Value)) (stp encRf decRf s x).2) w):=by
 obtain⟨gf,hgf⟩:∃ gf,gf=E.gf:=⟨_,rfl⟩
 obtain⟨m,hm⟩:∃ m,m=s.md:=⟨_,rfl⟩
 obtain⟨⟨s0_,y0_⟩,hq0⟩:∃ p,p=stp encI Rd.i s x.kind:=⟨_,rfl⟩
 obtain⟨⟨s1_,y1_⟩,hq1⟩:∃ p,p=stp encI Rd.i s0_ x.owner:=⟨_,rfl⟩
 obtain⟨⟨s2_,y2_⟩,hq2⟩:∃ p,p=stp encI Rd.i s1_ x.cls:=⟨_,rfl⟩
 obtain⟨⟨s3_,y3_⟩,hq3⟩:∃ p,p=stp encI Rd.i s2_ x.int:=⟨_,rfl⟩
 obtain⟨⟨s4_,y4_⟩,hq4⟩:∃ p,p=stp encU Rd.u s3_ x.number:=⟨_,rfl⟩
 obtain⟨⟨s5_,y5_⟩,hq5⟩:∃ p,p=stp encId decId s4_ (x.idm,x.ids):=⟨_,rfl⟩
 obtain⟨⟨s6_,y6_⟩,hq6⟩:∃ p,p=stp encB Rd.bool s5_ x.weak:=⟨_,rfl⟩
 rw[stp_ref hq0 hq1 hq2 hq3 hq4 hq5 hq6]
 have hm0:s.md=m:=hm.symm
 have hm1:=md_next hq0 hm0
 have hm2:=md_next hq1 hm1
 have hm3:=md_next hq2 hm2
 have hm4:=md_next hq3 hm3
 have hm5:=md_next hq4 hm4
 have hm6:=md_next hq5 hm5
 have hm7:=md_next hq6 hm6
 have hf0:s.fit ((encI x.kind).length+((encI x.owner).length+((encI x.cls).length+((encI x.int).length+((encU x.number).length+((encId (x.idm,x.ids)).length+((encB x.weak).length+(0)))))))):=hf.mono (by unfold encRf;(try unfold encId);simp only[List.length_append];omega)
 have hf1:s0_.fit ((encI x.owner).length+((encI x.cls).length+((encI x.int).length+((encU x.number).length+((encId (x.idm,x.ids)).length+((encB x.weak).length+(0))))))):=fit_next hq0 hf0
 have hf2:s1_.fit ((encI x.cls).length+((encI x.int).length+((encU x.number).length+((encId (x.idm,x.ids)).length+((encB x.weak).length+(0)))))):=fit_next hq1 hf1
 have hf3:s2_.fit ((encI x.int).length+((encU x.number).length+((encId (x.idm,x.ids)).length+((encB x.weak).length+(0))))):=fit_next hq2 hf2
 have hf4:s3_.fit ((encU x.number).length+((encId (x.idm,x.ids)).length+((encB x.weak).length+(0)))):=fit_next hq3 hf3
 have hf5:s4_.fit ((encId (x.idm,x.ids)).length+((encB x.weak).length+(0))):=fit_next hq4 hf4
 have hf6:s5_.fit ((encB x.weak).length+(0)):=fit_next hq5 hf5
 have hf7:s6_.fit (0):=fit_next hq6 hf6
 have HM0:=lh hm0
 have HFT0:=lh hf0
 have HM1:=lh hm1
 have HFT1:=lh hf1
 have HM2:=lh hm2
 have HFT2:=lh hf2
 have HM3:=lh hm3
 have HFT3:=lh hf3
 have HM4:=lh hm4
 have HFT4:=lh hf4
 have HM5:=lh hm5
 have HFT5:=lh hf5
 have HM6:=lh hm6
 have HFT6:=lh hf6
 have HM7:=lh hm7
 have HFT7:=lh hf7
 have HQ0:=lh hq0
 have HQ1:=lh hq1
 have HQ2:=lh hq2
 have HQ3:=lh hq3
 have HQ4:=lh hq4
 have HQ5:=lh hq5
 have HQ6:=lh hq6
 have HX:=lh hx
 have HO:=lh ho
 have HGF:=lh hgf
 rw[← hgf,← hm]
 rw[← hm] at hH
 have HBL:Hid (b < w.heap.size):=lh (hH.lt (by simp))
 have HF:=lh hF
 have HH:=lh hH
 clear hgf hm hF hH ho hx hf hq0 hq1 hq2 hq3 hq4 hq5 hq6 hm0 hf0 hm1 hf1 hm2 hf2 hm3 hf3 hm4 hf4 hm5 hf5 hm6 hf6 hm7 hf7
 go_enter Tryz.func42,Tryz.ntmps42
 go_wp2_with fail
 refine wp_seq 12 (fun i=>([[],[],[1],[2],[],[4],[5],[],[7],[8],[3,6,9],[0,10]]:List (List Nat)).getD i []) [10,11] (fun i=>([1,0,0,0,0,0,0,0,0,0,0,0]:List Nat).getD i 0) (fun i=>([.pointer (some ⟨gf,0,none⟩),.pointer (some ⟨b,o,none⟩),.pointer (some ⟨b,o,none⟩),.pointer (some ⟨b,o,none⟩),.pointer (some ⟨b,o,none⟩),.pointer (some ⟨b,o,none⟩),.pointer (some ⟨b,o+2,none⟩),.pointer (some ⟨b,o,none⟩),.pointer (some ⟨b,o,none⟩),.pointer (some ⟨b,o+6,none⟩),.bool false,.bool false]:List Value).getD i (.bool false)) (CmS (Below w.heap.size w) (fun v w1=>Below w.heap.size w w1∧∃ q,v=.slice (some ⟨q,0,none⟩) 3 3∧Bk w1 q 105 #[.pointer (some ⟨b,o,none⟩),.pointer (some ⟨b,o+2,none⟩),.pointer (some ⟨b,o+6,none⟩)]∧w.heap.size≤q) (fun w1=>StP E N t b pre post (stpN s [x.kind,x.owner,x.cls] 3).1 s.md (updI [.int .i64 x.kind,.int .i64 x.int,.int .i64 x.owner,.int .u64 x.number,.int .i64 x.idm,.int .i64 x.ids,.int .i64 x.cls,.bool x.weak] [0,2,6] (stpN s [x.kind,x.owner,x.cls] 3).2) w (.returned (.tuple #[])) w1)) rfl (by kernel_rfl) (by rfl) (by kernel_rfl) ?_ ?_ ?_ ?_
 ·exact(Below.refl _ _).drew
 ·intro i hi hn o ho k vs w1 hk hlow hS hvs
  rcases (show i=0 ∨ i=1 ∨ i=2 ∨ i=3 ∨ i=4 ∨ i=5 ∨ i=6 ∨ i=7 ∨ i=8 ∨ i=9 ∨ i=10 ∨ i=11 by omega) with rfl | rfl | rfl | rfl | rfl | rfl | rfl | rfl | rfl | rfl | rfl | rfl <;> cases ho
  ·clear hS hvs hlow hk hn
   change Sem.run _ (execOp (Act.eval (frm _ _ _ [])) _) _=_
   simp only[frm]
   go_simp
  ·clear hS hvs hlow hk hn
   change Sem.run _ (execOp (Act.eval (frm _ _ _ [])) _) _=_
   simp only[frm]
   go_simp
  ·have h1:vs 1=.pointer (some ⟨b,o,none⟩):=hvs 1 (by decide) (by decide)
   clear hS hvs hlow hk hn
   change Sem.run _ (execOp (Act.eval (Act.put (frm _ _ _ []) (some 5) (vs 1))) _) _=_
   simp only[frm,h1]
   go_simp
  ·have h2:vs 2=.pointer (some ⟨b,o,none⟩):=hvs 2 (by decide) (by decide)
   clear hS hvs hlow hk hn
   change Sem.run _ (execOp (Act.eval (Act.put (frm _ _ _ []) (some 6) (vs 2))) _) _=_
   simp only[frm,h2]
   go_simp
  ·clear hS hvs hlow hk hn
   change Sem.run _ (execOp (Act.eval (frm _ _ _ [])) _) _=_
   simp only[frm]
   go_simp
  ·have h4:vs 4=.pointer (some ⟨b,o,none⟩):=hvs 4 (by decide) (by decide)
   clear hS hvs hlow hk hn
   change Sem.run _ (execOp (Act.eval (Act.put (frm _ _ _ []) (some 8) (vs 4))) _) _=_
   simp only[frm,h4]
   go_simp
  ·have h5:vs 5=.pointer (some ⟨b,o,none⟩):=hvs 5 (by decide) (by decide)
   clear hS hvs hlow hk hn
   change Sem.run _ (execOp (Act.eval (Act.put (frm _ _ _ []) (some 9) (vs 5))) _) _=_
   simp only[frm,h5]
   go_simp
  ·clear hS hvs hlow hk hn
   change Sem.run _ (execOp (Act.eval (frm _ _ _ [])) _) _=_
   simp only[frm]
   go_simp
  ·have h7:vs 7=.pointer (some ⟨b,o,none⟩):=hvs 7 (by decide) (by decide)
   clear hS hvs hlow hk hn
   change Sem.run _ (execOp (Act.eval (Act.put (frm _ _ _ []) (some 11) (vs 7))) _) _=_
   simp only[frm,h7]
   go_simp
  ·have h8:vs 8=.pointer (some ⟨b,o,none⟩):=hvs 8 (by decide) (by decide)
   clear hS hvs hlow hk hn
   change Sem.run _ (execOp (Act.eval (Act.put (frm _ _ _ []) (some 12) (vs 8))) _) _=_
   simp only[frm,h8]
   go_simp
  ·exact absurd (by decide) hn
  ·exact absurd (by decide) hn
 ·intro p hp o ho vs w1 hS hvs
  rcases (show p=0 ∨ p=1 by change p < 2 at hp;omega) with rfl | rfl <;> cases ho
  ·replace hS:Below w.heap.size w w1:=hS
   have h3:vs 3=.pointer (some ⟨b,o,none⟩):=hvs 3 (by decide) (by decide)
   have h6:vs 6=.pointer (some ⟨b,o+2,none⟩):=hvs 6 (by decide) (by decide)
   have h9:vs 9=.pointer (some ⟨b,o+6,none⟩):=hvs 9 (by decide) (by decide)
   show Made _ (fun v w1=>Below w.heap.size w w1∧∃ q,v=.slice (some ⟨q,0,none⟩) 3 3∧Bk w1 q 105 #[.pointer (some ⟨b,o,none⟩),.pointer (some ⟨b,o+2,none⟩),.pointer (some ⟨b,o+6,none⟩)]∧w.heap.size≤q) _
   change Made _ _ (Sem.run _ (execOp (Act.eval (Act.put (Act.put (Act.put (frm _ _ _ []) (some 13) (vs 9)) (some 10) (vs 6)) (some 7) (vs 3))) _) _)
   simp only[frm,h3,h6,h9]
   have HB1:=lh hS
   clear hS hvs h3 h6 h9
   go_simp
   exact made_ok ⟨HB1.out.alloc HB1.out.size _,_,rfl,Bk.new _ _ _,HB1.out.size⟩
  ·replace hS:(fun v w1=>Below w.heap.size w w1∧∃ q,v=.slice (some ⟨q,0,none⟩) 3 3∧Bk w1 q 105 #[.pointer (some ⟨b,o,none⟩),.pointer (some ⟨b,o+2,none⟩),.pointer (some ⟨b,o+6,none⟩)]∧w.heap.size≤q) (vs 10) w1:=hS
   have h0:vs 0=.pointer (some ⟨gf,0,none⟩):=hvs 0 (by decide) (by decide)
   show Made _ (fun _=>fun w1=>StP E N t b pre post (stpN s [x.kind,x.owner,x.cls] 3).1 s.md (updI [.int .i64 x.kind,.int .i64 x.int,.int .i64 x.owner,.int .u64 x.number,.int .i64 x.idm,.int .i64 x.ids,.int .i64 x.cls,.bool x.weak] [0,2,6] (stpN s [x.kind,x.owner,x.cls] 3).2) w (.returned (.tuple #[])) w1) _
   change Made _ _ (Sem.run _ (execOp (Act.eval (Act.put (Act.put (frm _ _ _ []) (some 14) (vs 10)) (some 4) (vs 0))) _) _)
   obtain⟨hb1,q,hq,hbk,hqs⟩:=hS
   simp only[frm,h0,hq]
   have cM:=small_any (pre:=pre) (post:=post) (js:=[0,2,6]) (xs:=[x.kind,x.owner,x.cls]) (HF.out.below hb1) ((show Hd E N t b pre post s.md w _ by rw[HM0.out];exact HH.out).below hb1) HO.out (show Bk w1 q 105 ([0,2,6].map fun j=>Value.pointer (some ⟨b,o+j,none⟩)).toArray from hbk) (by have:=HBL.out;omega) (nreader HF.out (by omega)) rfl (by decide) (idx3 rfl rfl rfl) (by simp only[List.mem_cons,List.not_mem_nil,or_false,forall_eq_or_imp,forall_eq];exact⟨HX.out.1,HX.out.2.1,HX.out.2.2.1⟩) (HFT0.out.mono (by unfold encIs;simp only[List.flatMap_cons,List.flatMap_nil,List.length_append,List.length_nil];omega)) (by decide)
   rw[← HGF.out] at cM
   have HB1:=lh hb1
   clear hvs hbk hq hqs hb1 h0
   go_simp
   exact made_call (cM.mono fun e w2 ⟨he,h1,h2,h3⟩=>⟨_,he,rfl,h1,h2,(Fr.ofBelow HB1.out).trans h3⟩)
 ·intro vs w5 hS hvs
  replace hS:(fun w1=>StP E N t b pre post (stpN s [x.kind,x.owner,x.cls] 3).1 s.md (updI [.int .i64 x.kind,.int .i64 x.int,.int .i64 x.owner,.int .u64 x.number,.int .i64 x.idm,.int .i64 x.ids,.int .i64 x.cls,.bool x.weak] [0,2,6] (stpN s [x.kind,x.owner,x.cls] 3).2) w (.returned (.tuple #[])) w1) w5:=hS
  change wpList _ _ _ [] (Act.put (Act.put (Act.put (Act.put (Act.put (Act.put (Act.put (Act.put (Act.put (Act.put (Act.put (Act.put (frm _ _ _ []) (some 15) (vs 11)) (some 14) (vs 10)) (some 13) (vs 9)) (some 12) (vs 8)) (some 11) (vs 7)) (some 10) (vs 6)) (some 9) (vs 5)) (some 8) (vs 4)) (some 7) (vs 3)) (some 6) (vs 2)) (some 5) (vs 1)) (some 4) (vs 0)) _
  simp only[frm]
  clear hvs
  generalize vs 0=z0
  generalize vs 1=z1
  generalize vs 2=z2
  generalize vs 3=z3
  generalize vs 4=z4
  generalize vs 5=z5
  generalize vs 6=z6
  generalize vs 7=z7
  generalize vs 8=z8
  generalize vs 9=z9
  generalize vs 10=z10
  generalize vs 11=z11
  obtain⟨_,hF5,hH5,hfr5⟩:=hS
  rw[stpN3 HQ0.out HQ1.out HQ2.out] at hF5 hH5
  rw[HM0.out] at hH5 hfr5
  replace hH5:Hd E N t b pre post m w5 [.int .i64 y0_,.int .i64 x.int,.int .i64 y1_,.int .u64 x.number,.int .i64 x.idm,.int .i64 x.ids,.int .i64 y2_,.bool x.weak]:=hH5
  replace hF5:Fm E N w5 s2_:=hF5
  have HF0_:=lh hF5
  have HH0_:=lh hH5
  have HFR0_:=lh hfr5
  clear hF5 hH5 hfr5
  have cM1:=Itg_any (x:=x.int) (pre:=pre++[.int .i64 y0_]) (post:=[.int .i64 y1_,.int .u64 x.number,.int .i64 x.idm,.int .i64 x.ids,.int .i64 y2_,.bool x.weak]++post) (o:=o+1) HF0_.out (show Hd E N t b (pre++[.int .i64 y0_]) ([.int .i64 y1_,.int .u64 x.number,.int .i64 x.idm,.int .i64 x.ids,.int .i64 y2_,.bool x.weak]++post) s2_.md w5 [.int .i64 x.int] by rw[HM3.out];exact Hd.sub (r1:=[.int .i64 y0_]) (r2:=[.int .i64 x.int]) (r3:=[.int .i64 y1_,.int .u64 x.number,.int .i64 x.idm,.int .i64 x.ids,.int .i64 y2_,.bool x.weak]) HH0_.out) (by rw[List.length_append,HO.out];rfl) (HX.out.2.2.2.1) (HFT3.out.mono (by omega))
  rw[← HQ3.out,HM3.out,← HGF.out] at cM1
  try dsimp only at cM1
  go_wp2_with fail
  refine cM1.mono ?_
  rintro e u1_ ⟨rfl,hF5,hH5,hfr5⟩
  have hHH:Hd E N t b pre post m u1_ [.int .i64 y0_,.int .i64 y3_,.int .i64 y1_,.int .u64 x.number,.int .i64 x.idm,.int .i64 x.ids,.int .i64 y2_,.bool x.weak]:=Hd.back (r1:=[.int .i64 y0_]) (r2:=[.int .i64 x.int]) (r3:=[.int .i64 y1_,.int .u64 x.number,.int .i64 x.idm,.int .i64 x.ids,.int .i64 y2_,.bool x.weak]) (r2':=[.int .i64 y3_]) HH0_.out hfr5 rfl hH5
  have HF1_:=lh hF5
  have HH1_:=lh hHH
  have HFR1_:=lh (HFR0_.out.trans hfr5)
  clear cM1 hF5 hH5 hfr5 hHH
  have cM2:=Num_any (x:=x.number) (pre:=pre++[.int .i64 y0_,.int .i64 y3_,.int .i64 y1_]) (post:=[.int .i64 x.idm,.int .i64 x.ids,.int .i64 y2_,.bool x.weak]++post) (o:=o+3) HF1_.out (show Hd E N t b (pre++[.int .i64 y0_,.int .i64 y3_,.int .i64 y1_]) ([.int .i64 x.idm,.int .i64 x.ids,.int .i64 y2_,.bool x.weak]++post) s3_.md u1_ [.int .u64 x.number] by rw[HM4.out];exact Hd.sub (r1:=[.int .i64 y0_,.int .i64 y3_,.int .i64 y1_]) (r2:=[.int .u64 x.number]) (r3:=[.int .i64 x.idm,.int .i64 x.ids,.int .i64 y2_,.bool x.weak]) HH1_.out) (by rw[List.length_append,HO.out];rfl) (HX.out.2.2.2.2.1) (HFT4.out.mono (by omega))
  rw[← HQ4.out,HM4.out,← HGF.out] at cM2
  try dsimp only at cM2
  go_wp2_with fail
  refine cM2.mono ?_
  rintro e u2_ ⟨rfl,hF5,hH5,hfr5⟩
  have hHH:Hd E N t b pre post m u2_ [.int .i64 y0_,.int .i64 y3_,.int .i64 y1_,.int .u64 y4_,.int .i64 x.idm,.int .i64 x.ids,.int .i64 y2_,.bool x.weak]:=Hd.back (r1:=[.int .i64 y0_,.int .i64 y3_,.int .i64 y1_]) (r2:=[.int .u64 x.number]) (r3:=[.int .i64 x.idm,.int .i64 x.ids,.int .i64 y2_,.bool x.weak]) (r2':=[.int .u64 y4_]) HH1_.out hfr5 rfl hH5
  have HF2_:=lh hF5
  have HH2_:=lh hHH
  have HFR2_:=lh (HFR1_.out.trans hfr5)
  clear cM2 hF5 hH5 hfr5 hHH
  have cM3:=id_any (x:=(x.idm,x.ids)) (pre:=pre++[.int .i64 y0_,.int .i64 y3_,.int .i64 y1_,.int .u64 y4_]) (post:=[.int .i64 y2_,.bool x.weak]++post) (o:=o+4) HF2_.out (show Hd E N t b (pre++[.int .i64 y0_,.int .i64 y3_,.int .i64 y1_,.int .u64 y4_]) ([.int .i64 y2_,.bool x.weak]++post) s4_.md u2_ [.int .i64 x.idm,.int .i64 x.ids] by rw[HM5.out];exact Hd.sub (r1:=[.int .i64 y0_,.int .i64 y3_,.int .i64 y1_,.int .u64 y4_]) (r2:=[.int .i64 x.idm,.int .i64 x.ids]) (r3:=[.int .i64 y2_,.bool x.weak]) HH2_.out) (by rw[List.length_append,HO.out];rfl) (⟨HX.out.2.2.2.2.2.1,HX.out.2.2.2.2.2.2⟩) (HFT5.out.mono (by omega))
  rw[← HQ5.out,HM5.out,← HGF.out] at cM3
  try dsimp only at cM3
  go_wp2_with fail
  refine cM3.mono ?_
  rintro e u3_ ⟨rfl,hF5,hH5,hfr5⟩
  have hHH:Hd E N t b pre post m u3_ [.int .i64 y0_,.int .i64 y3_,.int .i64 y1_,.int .u64 y4_,.int .i64 y5_.1,.int .i64 y5_.2,.int .i64 y2_,.bool x.weak]:=Hd.back (r1:=[.int .i64 y0_,.int .i64 y3_,.int .i64 y1_,.int .u64 y4_]) (r2:=[.int .i64 x.idm,.int .i64 x.ids]) (r3:=[.int .i64 y2_,.bool x.weak]) (r2':=[.int .i64 y5_.1,.int .i64 y5_.2]) HH2_.out hfr5 rfl hH5
  have HF3_:=lh hF5
  have HH3_:=lh hHH
  have HFR3_:=lh (HFR2_.out.trans hfr5)
  clear cM3 hF5 hH5 hfr5 hHH
  have cM4:=Flg_any (x:=x.weak) (pre:=pre++[.int .i64 y0_,.int .i64 y3_,.int .i64 y1_,.int .u64 y4_,.int .i64 y5_.1,.int .i64 y5_.2,.int .i64 y2_]) (post:=[]++post) (o:=o+7) HF3_.out (show Hd E N t b (pre++[.int .i64 y0_,.int .i64 y3_,.int .i64 y1_,.int .u64 y4_,.int .i64 y5_.1,.int .i64 y5_.2,.int .i64 y2_]) ([]++post) s5_.md u3_ [.bool x.weak] by rw[HM6.out];exact Hd.sub (r1:=[.int .i64 y0_,.int .i64 y3_,.int .i64 y1_,.int .u64 y4_,.int .i64 y5_.1,.int .i64 y5_.2,.int .i64 y2_]) (r2:=[.bool x.weak]) (r3:=[]) HH3_.out) (by rw[List.length_append,HO.out];rfl) (trivial) (HFT6.out.mono (by omega))
  rw[← HQ6.out,HM6.out,← HGF.out] at cM4
  try dsimp only at cM4
  go_wp2_with fail
  refine cM4.mono ?_
  rintro e u4_ ⟨rfl,hF5,hH5,hfr5⟩
  have hHH:Hd E N t b pre post m u4_ [.int .i64 y0_,.int .i64 y3_,.int .i64 y1_,.int .u64 y4_,.int .i64 y5_.1,.int .i64 y5_.2,.int .i64 y2_,.bool y6_]:=Hd.back (r1:=[.int .i64 y0_,.int .i64 y3_,.int .i64 y1_,.int .u64 y4_,.int .i64 y5_.1,.int .i64 y5_.2,.int .i64 y2_]) (r2:=[.bool x.weak]) (r3:=[]) (r2':=[.bool y6_]) HH3_.out hfr5 rfl hH5
  have HF4_:=lh hF5
  have HH4_:=lh hHH
  have HFR4_:=lh (HFR3_.out.trans hfr5)
  clear cM4 hF5 hH5 hfr5 hHH
  go_wp2_with fail
  go_end0
  exact⟨rfl,HF4_.out,HH4_.out,HFR4_.out⟩
end
theorem stp_inset {s s0_ s1_ s2_:Fs} {x:In} {y0_:Int} {y1_:Int} {y2_:Int} (h0:(s0_,y0_)=stp encI Rd.i s x.client) (h1:(s1_,y1_)=stp encI Rd.i s0_ x.out) (h2:(s2_,y2_)=stp encU Rd.u s1_ x.number):stp encIn decIn s x=(s2_,(⟨y0_,y2_,y1_⟩:In)):=by
 cases s with
 | w l =>
  obtain⟨rfl,rfl⟩:=Prod.mk.inj h0
  obtain⟨rfl,rfl⟩:=Prod.mk.inj h1
  obtain⟨rfl,rfl⟩:=Prod.mk.inj h2
  simp[stp,encIn,encId,List.append_assoc]
 | r rd =>
  obtain⟨rfl,rfl⟩:=Prod.mk.inj h0
  obtain⟨rfl,rfl⟩:=Prod.mk.inj h1
  obtain⟨rfl,rfl⟩:=Prod.mk.inj h2
  rfl
section
variable {E:Env} {N:Nat→Prop} {t:TypeId} {b o:Nat} {pre post:List Value} {w:World} {s:Fs} {x:In}
set_option maxHeartbeats 8000000 in
theorem inset_any (hF:Fm E N w s) (hH:Hd E N t b pre post s.md w [.int .i64 x.client,.int .u64 x.number,.int .i64 x.out]) (ho:pre.length=o) (hx:inP x) (hf:s.fit (encIn x).length):Calls Tryz.prog 119 #[.pointer (some ⟨E.gf,0,none⟩),.pointer (some ⟨b,o,none⟩)] w (StP E N t b pre post (stp encIn decIn s x).1 s.md ((fun x:In=>([.int .i64 x.client,.int .u64 x.number,.int .i64 x.out]:List Value)) (stp encIn decIn s x).2) w):=by
 obtain⟨gf,hgf⟩:∃ gf,gf=E.gf:=⟨_,rfl⟩
 obtain⟨m,hm⟩:∃ m,m=s.md:=⟨_,rfl⟩
 obtain⟨⟨s0_,y0_⟩,hq0⟩:∃ p,p=stp encI Rd.i s x.client:=⟨_,rfl⟩
 obtain⟨⟨s1_,y1_⟩,hq1⟩:∃ p,p=stp encI Rd.i s0_ x.out:=⟨_,rfl⟩
 obtain⟨⟨s2_,y2_⟩,hq2⟩:∃ p,p=stp encU Rd.u s1_ x.number:=⟨_,rfl⟩
 rw[stp_inset hq0 hq1 hq2]
 have hm0:s.md=m:=hm.symm
 have hm1:=md_next hq0 hm0
 have hm2:=md_next hq1 hm1
 have hm3:=md_next hq2 hm2
 have hf0:s.fit ((encI x.client).length+((encI x.out).length+((encU x.number).length+(0)))):=hf.mono (by unfold encIn;(try unfold encId);simp only[List.length_append];omega)
 have hf1:s0_.fit ((encI x.out).length+((encU x.number).length+(0))):=fit_next hq0 hf0
 have hf2:s1_.fit ((encU x.number).length+(0)):=fit_next hq1 hf1
 have hf3:s2_.fit (0):=fit_next hq2 hf2
 have HM0:=lh hm0
 have HFT0:=lh hf0
 have HM1:=lh hm1
 have HFT1:=lh hf1
 have HM2:=lh hm2
 have HFT2:=lh hf2
 have HM3:=lh hm3
 have HFT3:=lh hf3
 have HQ0:=lh hq0
 have HQ1:=lh hq1
 have HQ2:=lh hq2
 have HX:=lh hx
 have HO:=lh ho
 have HGF:=lh hgf
 rw[← hgf,← hm]
 rw[← hm] at hH
 have HBL:Hid (b < w.heap.size):=lh (hH.lt (by simp))
 have HF:=lh hF
 have HH:=lh hH
 clear hgf hm hF hH ho hx hf hq0 hq1 hq2 hm0 hf0 hm1 hf1 hm2 hf2 hm3 hf3
 go_enter Tryz.func119,Tryz.ntmps119
 go_wp2_with fail
 refine wp_seq 9 (fun i=>([[],[],[1],[2],[],[4],[5],[3,6],[0,7]]:List (List Nat)).getD i []) [7,8] (fun i=>([1,0,0,0,0,0,0,0,0]:List Nat).getD i 0) (fun i=>([.pointer (some ⟨gf,0,none⟩),.pointer (some ⟨b,o,none⟩),.pointer (some ⟨b,o,none⟩),.pointer (some ⟨b,o,none⟩),.pointer (some ⟨b,o,none⟩),.pointer (some ⟨b,o,none⟩),.pointer (some ⟨b,o+2,none⟩),.bool false,.bool false]:List Value).getD i (.bool false)) (CmS (Below w.heap.size w) (fun v w1=>Below w.heap.size w w1∧∃ q,v=.slice (some ⟨q,0,none⟩) 2 2∧Bk w1 q 105 #[.pointer (some ⟨b,o,none⟩),.pointer (some ⟨b,o+2,none⟩)]∧w.heap.size≤q) (fun w1=>StP E N t b pre post (stpN s [x.client,x.out] 2).1 s.md (updI [.int .i64 x.client,.int .u64 x.number,.int .i64 x.out] [0,2] (stpN s [x.client,x.out] 2).2) w (.returned (.tuple #[])) w1)) rfl (by kernel_rfl) (by rfl) (by kernel_rfl) ?_ ?_ ?_ ?_
 ·exact(Below.refl _ _).drew
 ·intro i hi hn o ho k vs w1 hk hlow hS hvs
  rcases (show i=0 ∨ i=1 ∨ i=2 ∨ i=3 ∨ i=4 ∨ i=5 ∨ i=6 ∨ i=7 ∨ i=8 by omega) with rfl | rfl | rfl | rfl | rfl | rfl | rfl | rfl | rfl <;> cases ho
  ·clear hS hvs hlow hk hn
   change Sem.run _ (execOp (Act.eval (frm _ _ _ [])) _) _=_
   simp only[frm]
   go_simp
  ·clear hS hvs hlow hk hn
   change Sem.run _ (execOp (Act.eval (frm _ _ _ [])) _) _=_
   simp only[frm]
   go_simp
  ·have h1:vs 1=.pointer (some ⟨b,o,none⟩):=hvs 1 (by decide) (by decide)
   clear hS hvs hlow hk hn
   change Sem.run _ (execOp (Act.eval (Act.put (frm _ _ _ []) (some 5) (vs 1))) _) _=_
   simp only[frm,h1]
   go_simp
  ·have h2:vs 2=.pointer (some ⟨b,o,none⟩):=hvs 2 (by decide) (by decide)
   clear hS hvs hlow hk hn
   change Sem.run _ (execOp (Act.eval (Act.put (frm _ _ _ []) (some 6) (vs 2))) _) _=_
   simp only[frm,h2]
   go_simp
  ·clear hS hvs hlow hk hn
   change Sem.run _ (execOp (Act.eval (frm _ _ _ [])) _) _=_
   simp only[frm]
   go_simp
  ·have h4:vs 4=.pointer (some ⟨b,o,none⟩):=hvs 4 (by decide) (by decide)
   clear hS hvs hlow hk hn
   change Sem.run _ (execOp (Act.eval (Act.put (frm _ _ _ []) (some 8) (vs 4))) _) _=_
   simp only[frm,h4]
   go_simp
  ·have h5:vs 5=.pointer (some ⟨b,o,none⟩):=hvs 5 (by decide) (by decide)
   clear hS hvs hlow hk hn
   change Sem.run _ (execOp (Act.eval (Act.put (frm _ _ _ []) (some 9) (vs 5))) _) _=_
   simp only[frm,h5]
   go_simp
  ·exact absurd (by decide) hn
  ·exact absurd (by decide) hn
 ·intro p hp o ho vs w1 hS hvs
  rcases (show p=0 ∨ p=1 by change p < 2 at hp;omega) with rfl | rfl <;> cases ho
  ·replace hS:Below w.heap.size w w1:=hS
   have h3:vs 3=.pointer (some ⟨b,o,none⟩):=hvs 3 (by decide) (by decide)
   have h6:vs 6=.pointer (some ⟨b,o+2,none⟩):=hvs 6 (by decide) (by decide)
   show Made _ (fun v w1=>Below w.heap.size w w1∧∃ q,v=.slice (some ⟨q,0,none⟩) 2 2∧Bk w1 q 105 #[.pointer (some ⟨b,o,none⟩),.pointer (some ⟨b,o+2,none⟩)]∧w.heap.size≤q) _
   change Made _ _ (Sem.run _ (execOp (Act.eval (Act.put (Act.put (frm _ _ _ []) (some 10) (vs 6)) (some 7) (vs 3))) _) _)
   simp only[frm,h3,h6]
   have HB1:=lh hS
   clear hS hvs h3 h6
   go_simp
   exact made_ok ⟨HB1.out.alloc HB1.out.size _,_,rfl,Bk.new _ _ _,HB1.out.size⟩
  ·replace hS:(fun v w1=>Below w.heap.size w w1∧∃ q,v=.slice (some ⟨q,0,none⟩) 2 2∧Bk w1 q 105 #[.pointer (some ⟨b,o,none⟩),.pointer (some ⟨b,o+2,none⟩)]∧w.heap.size≤q) (vs 7) w1:=hS
   have h0:vs 0=.pointer (some ⟨gf,0,none⟩):=hvs 0 (by decide) (by decide)
   show Made _ (fun _=>fun w1=>StP E N t b pre post (stpN s [x.client,x.out] 2).1 s.md (updI [.int .i64 x.client,.int .u64 x.number,.int .i64 x.out] [0,2] (stpN s [x.client,x.out] 2).2) w (.returned (.tuple #[])) w1) _
   change Made _ _ (Sem.run _ (execOp (Act.eval (Act.put (Act.put (frm _ _ _ []) (some 11) (vs 7)) (some 4) (vs 0))) _) _)
   obtain⟨hb1,q,hq,hbk,hqs⟩:=hS
   simp only[frm,h0,hq]
   have cM:=small_any (pre:=pre) (post:=post) (js:=[0,2]) (xs:=[x.client,x.out]) (HF.out.below hb1) ((show Hd E N t b pre post s.md w _ by rw[HM0.out];exact HH.out).below hb1) HO.out (show Bk w1 q 105 ([0,2].map fun j=>Value.pointer (some ⟨b,o+j,none⟩)).toArray from hbk) (by have:=HBL.out;omega) (nreader HF.out (by omega)) rfl (by decide) (idx2 rfl rfl) (by simp only[List.mem_cons,List.not_mem_nil,or_false,forall_eq_or_imp,forall_eq];exact⟨HX.out.1,HX.out.2.1⟩) (HFT0.out.mono (by unfold encIs;simp only[List.flatMap_cons,List.flatMap_nil,List.length_append,List.length_nil];omega)) (by decide)
   rw[← HGF.out] at cM
   have HB1:=lh hb1
   clear hvs hbk hq hqs hb1 h0
   go_simp
   exact made_call (cM.mono fun e w2 ⟨he,h1,h2,h3⟩=>⟨_,he,rfl,h1,h2,(Fr.ofBelow HB1.out).trans h3⟩)
 ·intro vs w5 hS hvs
  replace hS:(fun w1=>StP E N t b pre post (stpN s [x.client,x.out] 2).1 s.md (updI [.int .i64 x.client,.int .u64 x.number,.int .i64 x.out] [0,2] (stpN s [x.client,x.out] 2).2) w (.returned (.tuple #[])) w1) w5:=hS
  change wpList _ _ _ [] (Act.put (Act.put (Act.put (Act.put (Act.put (Act.put (Act.put (Act.put (Act.put (frm _ _ _ []) (some 12) (vs 8)) (some 11) (vs 7)) (some 10) (vs 6)) (some 9) (vs 5)) (some 8) (vs 4)) (some 7) (vs 3)) (some 6) (vs 2)) (some 5) (vs 1)) (some 4) (vs 0)) _
  simp only[frm]
  clear hvs
  generalize vs 0=z0
  generalize vs 1=z1
  generalize vs 2=z2
  generalize vs 3=z3
  generalize vs 4=z4
  generalize vs 5=z5
  generalize vs 6=z6
  generalize vs 7=z7
  generalize vs 8=z8
  obtain⟨_,hF5,hH5,hfr5⟩:=hS
  rw[stpN2 HQ0.out HQ1.out] at hF5 hH5
  rw[HM0.out] at hH5 hfr5
  replace hH5:Hd E N t b pre post m w5 [.int .i64 y0_,.int .u64 x.number,.int .i64 y1_]:=hH5
  replace hF5:Fm E N w5 s1_:=hF5
  have HF0_:=lh hF5
  have HH0_:=lh hH5
  have HFR0_:=lh hfr5
  clear hF5 hH5 hfr5
  have cM1:=Num_any (x:=x.number) (pre:=pre++[.int .i64 y0_]) (post:=[.int .i64 y1_]++post) (o:=o+1) HF0_.out (show Hd E N t b (pre++[.int .i64 y0_]) ([.int .i64 y1_]++post) s1_.md w5 [.int .u64 x.number] by rw[HM2.out];exact Hd.sub (r1:=[.int .i64 y0_]) (r2:=[.int .u64 x.number]) (r3:=[.int .i64 y1_]) HH0_.out) (by rw[List.length_append,HO.out];rfl) (HX.out.2.2) (HFT2.out.mono (by omega))
  rw[← HQ2.out,HM2.out,← HGF.out] at cM1
  try dsimp only at cM1
  go_wp2_with fail
  refine cM1.mono ?_
  rintro e u1_ ⟨rfl,hF5,hH5,hfr5⟩
  have hHH:Hd E N t b pre post m u1_ [.int .i64 y0_,.int .u64 y2_,.int .i64 y1_]:=Hd.back (r1:=[.int .i64 y0_]) (r2:=[.int .u64 x.number]) (r3:=[.int .i64 y1_]) (r2':=[.int .u64 y2_]) HH0_.out hfr5 rfl hH5
  have HF1_:=lh hF5
  have HH1_:=lh hHH
  have HFR1_:=lh (HFR0_.out.trans hfr5)
  clear cM1 hF5 hH5 hfr5 hHH
  go_wp2_with fail
  go_end0
  exact⟨rfl,HF1_.out,HH1_.out,HFR1_.out⟩
end
theorem stp_need {s s0_ s1_ s2_:Fs} {x:Nd} {y0_:Int} {y1_:Int} {y2_:Int} (h0:(s0_,y0_)=stp encI Rd.i s x.peer) (h1:(s1_,y1_)=stp encI Rd.i s0_ x.stamp) (h2:(s2_,y2_)=stp encU Rd.u s1_ x.number):stp encNd decNd s x=(s2_,(⟨y0_,y2_,y1_⟩:Nd)):=by
 cases s with
 | w l =>
  obtain⟨rfl,rfl⟩:=Prod.mk.inj h0
  obtain⟨rfl,rfl⟩:=Prod.mk.inj h1
  obtain⟨rfl,rfl⟩:=Prod.mk.inj h2
  simp[stp,encNd,encId,List.append_assoc]
 | r rd =>
  obtain⟨rfl,rfl⟩:=Prod.mk.inj h0
  obtain⟨rfl,rfl⟩:=Prod.mk.inj h1
  obtain⟨rfl,rfl⟩:=Prod.mk.inj h2
  rfl
section
variable {E:Env} {N:Nat→Prop} {t:TypeId} {b o:Nat} {pre post:List Value} {w:World} {s:Fs} {x:Nd}
set_option maxHeartbeats 8000000 in
theorem need_any (hF:Fm E N w s) (hH:Hd E N t b pre post s.md w [.int .i64 x.peer,.int .u64 x.number,.int .i64 x.stamp]) (ho:pre.length=o) (hx:ndP x) (hf:s.fit (encNd x).length):Calls Tryz.prog 121 #[.pointer (some ⟨E.gf,0,none⟩),.pointer (some ⟨b,o,none⟩)] w (StP E N t b pre post (stp encNd decNd s x).1 s.md ((fun x:Nd=>([.int .i64 x.peer,.int .u64 x.number,.int .i64 x.stamp]:List Value)) (stp encNd decNd s x).2) w):=by
 obtain⟨gf,hgf⟩:∃ gf,gf=E.gf:=⟨_,rfl⟩
 obtain⟨m,hm⟩:∃ m,m=s.md:=⟨_,rfl⟩
 obtain⟨⟨s0_,y0_⟩,hq0⟩:∃ p,p=stp encI Rd.i s x.peer:=⟨_,rfl⟩
 obtain⟨⟨s1_,y1_⟩,hq1⟩:∃ p,p=stp encI Rd.i s0_ x.stamp:=⟨_,rfl⟩
 obtain⟨⟨s2_,y2_⟩,hq2⟩:∃ p,p=stp encU Rd.u s1_ x.number:=⟨_,rfl⟩
 rw[stp_need hq0 hq1 hq2]
 have hm0:s.md=m:=hm.symm
 have hm1:=md_next hq0 hm0
 have hm2:=md_next hq1 hm1
 have hm3:=md_next hq2 hm2
 have hf0:s.fit ((encI x.peer).length+((encI x.stamp).length+((encU x.number).length+(0)))):=hf.mono (by unfold encNd;(try unfold encId);simp only[List.length_append];omega)
 have hf1:s0_.fit ((encI x.stamp).length+((encU x.number).length+(0))):=fit_next hq0 hf0
 have hf2:s1_.fit ((encU x.number).length+(0)):=fit_next hq1 hf1
 have hf3:s2_.fit (0):=fit_next hq2 hf2
 have HM0:=lh hm0
 have HFT0:=lh hf0
 have HM1:=lh hm1
 have HFT1:=lh hf1
 have HM2:=lh hm2
 have HFT2:=lh hf2
 have HM3:=lh hm3
 have HFT3:=lh hf3
 have HQ0:=lh hq0
 have HQ1:=lh hq1
 have HQ2:=lh hq2
 have HX:=lh hx
 have HO:=lh ho
 have HGF:=lh hgf
 rw[← hgf,← hm]
 rw[← hm] at hH
 have HBL:Hid (b < w.heap.size):=lh (hH.lt (by simp))
 have HF:=lh hF
 have HH:=lh hH
 clear hgf hm hF hH ho hx hf hq0 hq1 hq2 hm0 hf0 hm1 hf1 hm2 hf2 hm3 hf3
 go_enter Tryz.func121,Tryz.ntmps121
 go_wp2_with fail
 refine wp_seq 9 (fun i=>([[],[],[1],[2],[],[4],[5],[3,6],[0,7]]:List (List Nat)).getD i []) [7,8] (fun i=>([1,0,0,0,0,0,0,0,0]:List Nat).getD i 0) (fun i=>([.pointer (some ⟨gf,0,none⟩),.pointer (some ⟨b,o,none⟩),.pointer (some ⟨b,o,none⟩),.pointer (some ⟨b,o,none⟩),.pointer (some ⟨b,o,none⟩),.pointer (some ⟨b,o,none⟩),.pointer (some ⟨b,o+2,none⟩),.bool false,.bool false]:List Value).getD i (.bool false)) (CmS (Below w.heap.size w) (fun v w1=>Below w.heap.size w w1∧∃ q,v=.slice (some ⟨q,0,none⟩) 2 2∧Bk w1 q 105 #[.pointer (some ⟨b,o,none⟩),.pointer (some ⟨b,o+2,none⟩)]∧w.heap.size≤q) (fun w1=>StP E N t b pre post (stpN s [x.peer,x.stamp] 2).1 s.md (updI [.int .i64 x.peer,.int .u64 x.number,.int .i64 x.stamp] [0,2] (stpN s [x.peer,x.stamp] 2).2) w (.returned (.tuple #[])) w1)) rfl (by kernel_rfl) (by rfl) (by kernel_rfl) ?_ ?_ ?_ ?_
 ·exact(Below.refl _ _).drew
 ·intro i hi hn o ho k vs w1 hk hlow hS hvs
  rcases (show i=0 ∨ i=1 ∨ i=2 ∨ i=3 ∨ i=4 ∨ i=5 ∨ i=6 ∨ i=7 ∨ i=8 by omega) with rfl | rfl | rfl | rfl | rfl | rfl | rfl | rfl | rfl <;> cases ho
  ·clear hS hvs hlow hk hn
   change Sem.run _ (execOp (Act.eval (frm _ _ _ [])) _) _=_
   simp only[frm]
   go_simp
  ·clear hS hvs hlow hk hn
   change Sem.run _ (execOp (Act.eval (frm _ _ _ [])) _) _=_
   simp only[frm]
   go_simp
  ·have h1:vs 1=.pointer (some ⟨b,o,none⟩):=hvs 1 (by decide) (by decide)
   clear hS hvs hlow hk hn
   change Sem.run _ (execOp (Act.eval (Act.put (frm _ _ _ []) (some 5) (vs 1))) _) _=_
   simp only[frm,h1]
   go_simp
  ·have h2:vs 2=.pointer (some ⟨b,o,none⟩):=hvs 2 (by decide) (by decide)
   clear hS hvs hlow hk hn
   change Sem.run _ (execOp (Act.eval (Act.put (frm _ _ _ []) (some 6) (vs 2))) _) _=_
   simp only[frm,h2]
   go_simp
  ·clear hS hvs hlow hk hn
   change Sem.run _ (execOp (Act.eval (frm _ _ _ [])) _) _=_
   simp only[frm]
   go_simp
  ·have h4:vs 4=.pointer (some ⟨b,o,none⟩):=hvs 4 (by decide) (by decide)
   clear hS hvs hlow hk hn
   change Sem.run _ (execOp (Act.eval (Act.put (frm _ _ _ []) (some 8) (vs 4))) _) _=_
   simp only[frm,h4]
   go_simp
  ·have h5:vs 5=.pointer (some ⟨b,o,none⟩):=hvs 5 (by decide) (by decide)
   clear hS hvs hlow hk hn
   change Sem.run _ (execOp (Act.eval (Act.put (frm _ _ _ []) (some 9) (vs 5))) _) _=_
   simp only[frm,h5]
   go_simp
  ·exact absurd (by decide) hn
  ·exact absurd (by decide) hn
 ·intro p hp o ho vs w1 hS hvs
  rcases (show p=0 ∨ p=1 by change p < 2 at hp;omega) with rfl | rfl <;> cases ho
  ·replace hS:Below w.heap.size w w1:=hS
   have h3:vs 3=.pointer (some ⟨b,o,none⟩):=hvs 3 (by decide) (by decide)
   have h6:vs 6=.pointer (some ⟨b,o+2,none⟩):=hvs 6 (by decide) (by decide)
   show Made _ (fun v w1=>Below w.heap.size w w1∧∃ q,v=.slice (some ⟨q,0,none⟩) 2 2∧Bk w1 q 105 #[.pointer (some ⟨b,o,none⟩),.pointer (some ⟨b,o+2,none⟩)]∧w.heap.size≤q) _
   change Made _ _ (Sem.run _ (execOp (Act.eval (Act.put (Act.put (frm _ _ _ []) (some 10) (vs 6)) (some 7) (vs 3))) _) _)
   simp only[frm,h3,h6]
   have HB1:=lh hS
   clear hS hvs h3 h6
   go_simp
   exact made_ok ⟨HB1.out.alloc HB1.out.size _,_,rfl,Bk.new _ _ _,HB1.out.size⟩
  ·replace hS:(fun v w1=>Below w.heap.size w w1∧∃ q,v=.slice (some ⟨q,0,none⟩) 2 2∧Bk w1 q 105 #[.pointer (some ⟨b,o,none⟩),.pointer (some ⟨b,o+2,none⟩)]∧w.heap.size≤q) (vs 7) w1:=hS
   have h0:vs 0=.pointer (some ⟨gf,0,none⟩):=hvs 0 (by decide) (by decide)
   show Made _ (fun _=>fun w1=>StP E N t b pre post (stpN s [x.peer,x.stamp] 2).1 s.md (updI [.int .i64 x.peer,.int .u64 x.number,.int .i64 x.stamp] [0,2] (stpN s [x.peer,x.stamp] 2).2) w (.returned (.tuple #[])) w1) _
   change Made _ _ (Sem.run _ (execOp (Act.eval (Act.put (Act.put (frm _ _ _ []) (some 11) (vs 7)) (some 4) (vs 0))) _) _)
   obtain⟨hb1,q,hq,hbk,hqs⟩:=hS
   simp only[frm,h0,hq]
   have cM:=small_any (pre:=pre) (post:=post) (js:=[0,2]) (xs:=[x.peer,x.stamp]) (HF.out.below hb1) ((show Hd E N t b pre post s.md w _ by rw[HM0.out];exact HH.out).below hb1) HO.out (show Bk w1 q 105 ([0,2].map fun j=>Value.pointer (some ⟨b,o+j,none⟩)).toArray from hbk) (by have:=HBL.out;omega) (nreader HF.out (by omega)) rfl (by decide) (idx2 rfl rfl) (by simp only[List.mem_cons,List.not_mem_nil,or_false,forall_eq_or_imp,forall_eq];exact⟨HX.out.1,HX.out.2.1⟩) (HFT0.out.mono (by unfold encIs;simp only[List.flatMap_cons,List.flatMap_nil,List.length_append,List.length_nil];omega)) (by decide)
   rw[← HGF.out] at cM
   have HB1:=lh hb1
   clear hvs hbk hq hqs hb1 h0
   go_simp
   exact made_call (cM.mono fun e w2 ⟨he,h1,h2,h3⟩=>⟨_,he,rfl,h1,h2,(Fr.ofBelow HB1.out).trans h3⟩)
 ·intro vs w5 hS hvs
  replace hS:(fun w1=>StP E N t b pre post (stpN s [x.peer,x.stamp] 2).1 s.md (updI [.int .i64 x.peer,.int .u64 x.number,.int .i64 x.stamp] [0,2] (stpN s [x.peer,x.stamp] 2).2) w (.returned (.tuple #[])) w1) w5:=hS
  change wpList _ _ _ [] (Act.put (Act.put (Act.put (Act.put (Act.put (Act.put (Act.put (Act.put (Act.put (frm _ _ _ []) (some 12) (vs 8)) (some 11) (vs 7)) (some 10) (vs 6)) (some 9) (vs 5)) (some 8) (vs 4)) (some 7) (vs 3)) (some 6) (vs 2)) (some 5) (vs 1)) (some 4) (vs 0)) _
  simp only[frm]
  clear hvs
  generalize vs 0=z0
  generalize vs 1=z1
  generalize vs 2=z2
  generalize vs 3=z3
  generalize vs 4=z4
  generalize vs 5=z5
  generalize vs 6=z6
  generalize vs 7=z7
  generalize vs 8=z8
  obtain⟨_,hF5,hH5,hfr5⟩:=hS
  rw[stpN2 HQ0.out HQ1.out] at hF5 hH5
  rw[HM0.out] at hH5 hfr5
  replace hH5:Hd E N t b pre post m w5 [.int .i64 y0_,.int .u64 x.number,.int .i64 y1_]:=hH5
  replace hF5:Fm E N w5 s1_:=hF5
  have HF0_:=lh hF5
  have HH0_:=lh hH5
  have HFR0_:=lh hfr5
  clear hF5 hH5 hfr5
  have cM1:=Num_any (x:=x.number) (pre:=pre++[.int .i64 y0_]) (post:=[.int .i64 y1_]++post) (o:=o+1) HF0_.out (show Hd E N t b (pre++[.int .i64 y0_]) ([.int .i64 y1_]++post) s1_.md w5 [.int .u64 x.number] by rw[HM2.out];exact Hd.sub (r1:=[.int .i64 y0_]) (r2:=[.int .u64 x.number]) (r3:=[.int .i64 y1_]) HH0_.out) (by rw[List.length_append,HO.out];rfl) (HX.out.2.2) (HFT2.out.mono (by omega))
  rw[← HQ2.out,HM2.out,← HGF.out] at cM1
  try dsimp only at cM1
  go_wp2_with fail
  refine cM1.mono ?_
  rintro e u1_ ⟨rfl,hF5,hH5,hfr5⟩
  have hHH:Hd E N t b pre post m u1_ [.int .i64 y0_,.int .u64 y2_,.int .i64 y1_]:=Hd.back (r1:=[.int .i64 y0_]) (r2:=[.int .u64 x.number]) (r3:=[.int .i64 y1_]) (r2':=[.int .u64 y2_]) HH0_.out hfr5 rfl hH5
  have HF1_:=lh hF5
  have HH1_:=lh hHH
  have HFR1_:=lh (HFR0_.out.trans hfr5)
  clear cM1 hF5 hH5 hfr5 hHH
  go_wp2_with fail
  go_end0
  exact⟨rfl,HF1_.out,HH1_.out,HFR1_.out⟩
end
end
end Go.Proofs.YtmbnlccafcfbeaaGreatDoor
