/- Parts of the proof: RsK. -/
import Derived.Test.YtmbnlccafcfbeaaGreatDoorPfA
import Derived.Test.YtmbnlccafcfbeaaGreatDoorPf16
set_option linter.unusedVariables false
set_option linter.unusedSimpArgs false
set_option linter.unusedSectionVars false
set_option maxRecDepth 100000
set_option maxHeartbeats 64000000
namespace Go.Proofs.YtmbnlccafcfbeaaGreatDoor
section
open Go.RowKit
attribute [local go_sem] Oper.semAt_some
theorem qc5 {P:Program} {fn:Func} {p:Tmp} {ty:TypeId} (h:fn.results=#[.cell p ty]) (tmps:Array Value) (w:World) (g:Nat) (t:TypeId) (cs:Array Value) (d:TypeDesc)
  (hp:tmps.getD p undef=pq g 0) (hg:Bk w g t cs)
  (hu:P.underlying ty=some d) (hd:(match d with | .struct _ | .array _ _=>true | _=>false)=true) (hi:(P.info? ty).map (·.size)=some cs.size) :
  (results fn tmps).run P w=.ok (.agg cs) w:=by
 have hp':tmps[p]?.getD undef=pq g 0:=by simpa using hp
 simp[results,h,hp',asAddr,run_loadVar_row w g t ty cs (0,0) d hg hu hd hi]
theorem ROnly_any {w:World} {x:Ms} {r:List Value} (h:MsI w x r) {k:Nat} (hk:k < 18) (hxk:x.kind=k):Calls Tryz.prog 57 #[.agg r.toArray] w fun e w'=>bw w w'∧∃ r',e=.returned (.agg r'.toArray)∧MsI w' (qi6 k x) r':=by
 have hsz:r.toArray.toList.length=39:=h.len;obtain⟨A1,c1,A2,c2,A3,c3,A4,c4,A5,c5,A6,c6,A7,c7,A8,c8,hr,h1,h2,h3,h4,h5,h6,h7,h8⟩:=h
 obtain⟨M,hM⟩:∃ M,M=r.toArray:=⟨_,rfl⟩
 rw[← hM] at hsz ⊢;rw[hr] at hM;clear hr;have hM0:M[0]?=some (iv (k:Int)):=by rw[hM];exact congrArg (fun z=>some (iv z)) hxk
 obtain⟨W,hW⟩:∃ W,W=w.alloc (.cells M 42):=⟨_,rfl⟩
 obtain⟨g,hg⟩:∃ g,g=w.heap.size:=⟨_,rfl⟩
 obtain⟨W2,hW2⟩:∃ W2,W2=W.alloc (.cells msZ 42):=⟨_,rfl⟩
 obtain⟨gr,hgr⟩:∃ gr,gr=W.heap.size:=⟨_,rfl⟩
 have hb0:bw w W:=by rw[hW];exact qa2 _ _
 have hb2:bw W W2:=by rw[hW2];exact qa2 _ _
 have hk0:Bk W g 42 M:=by rw[hW,hg];exact Bk.new _ _ _
 have hr2:Bk W2 gr 42 msZ:=by rw[hW2,hgr];exact Bk.new _ _ _
 have hk2:=hk0.below hb2 hk0.lt;have a0:cl W2 g 0 (iv (k:Int)):=(hk2.cell 0).trans hM0;have HB2:=lh (hb0.trans (hb2.mono hb0.size));have HK2:=lh hk2;have HR2:=lh hr2;have HG:Hid (g=w.heap.size∧gr=g+1):=lh ⟨hg,by rw[hgr,hW,hg];simp⟩;have HM:=lh hM;have HM0:=lh hM0;have HXK:=lh hxk;have HL:=lh (And.intro h1 (And.intro h2 (And.intro h3 (And.intro h4 (And.intro h5 (And.intro h6 (And.intro h7 h8)))))));have HKK:=lh hk;unfold msZ at hW2;clear hb0 hb2 hk0 hr2 hk2 hM0 hM hxk hsz h1 h2 h3 h4 h5 h6 h7 h8 hk
 go_enter Tryz.func57,Tryz.ntmps57
 go_upto_region 1 with fail
 rw[← hW,← hg,← hW2,← HG.o.2];clear hW hg hW2 hgr;refine wp_region_list ?_
 go_upto_region 2 with (first | (refine wpList_build rfl _ _ rfl (by kernel_rfl) ?_) | (refine qf7 rfl _ _ _ rfl W2.heap.size (zk (k:Int)) (by kernel_rfl) (by kernel_rfl) _ _ (heap_alloc_new W2 _) (by kernel_rfl) (by kernel_rfl) (by kernel_rfl) ?_;intro w4 hk4 hp4) | fail)
 have hb4:bw W2 w4:=hp4.toBelow (qa2 _ _) (by simp) fun j e=>by omega
 obtain⟨g5,hg5⟩:∃ g5,g5=W2.heap.size:=⟨_,rfl⟩
 rw[← hg5] at hk4 ⊢;have HNE:Hid (g≠g5):=lh (by have:=HK2.o.lt;omega);have HNR:Hid (gr≠g5):=lh (by have:=HR2.o.lt;omega);have HB4:=lh (HB2.o.trans (hb4.mono HB2.o.size));have HG0:=lh (HK2.o.below hb4 HK2.o.lt);have HR4:=lh (HR2.o.below hb4 HR2.o.lt);have HGE:Hid (w.heap.size≤g5):=lh (by rw[hg5];exact HB2.o.size)
 obtain⟨Y0,hY0⟩:∃ Y,Y=qh7 x:=⟨_,rfl⟩
 have HY0:=lh hY0;have HZ0:Hid (Bk w4 g5 42 Y0):=lh (by have:=hk4;rw[hY0];unfold zk at this;unfold qh7;rw[HXK.o];exact this);have hs:Y0.size=39:=by rw[hY0];rfl
 replace a0:cl w4 g 0 (iv (k:Int)):=(HG0.o.cell 0).trans HM0.o
 have HEND:Hid (∀ (Z:Array Value) (r':List Value) (w5 w6:World),Bk w5 g5 42 Z→Kp (fun k=>k=g5) w4 w5→Bk w5 gr 42 msZ→w6=w5.setRow gr Z→Z=r'.toArray→(∀ V,bw w V→MsI V (qi6 k x) r')→bw w w6∧∃ r',Ending.returned (.agg Z)=.returned (.agg r'.toArray)∧MsI w6 (qi6 k x) r'):=lh fun Z r' w5 w6 hz hp hr h6 hr' hm=>by
  have hb5:bw w w5:=hp.toBelow HB4.o HB4.o.size fun j e=>by rw[e];exact HGE.o
  have hb6:bw w w6:=by rw[h6];exact(Kp.setRow (S:=fun k=>k=gr) w5 gr Z rfl).toBelow hb5 hb5.size fun k e=>by have:=HG.o;omega
  exact⟨hb6,r',by rw[hr'],hm w6 hb6⟩
 clear hg5 hb4 hk4 hp4 hY0 HB2 HK2 HR2 HB4 HGE HG HM0 HXK;have hk:=HKK.o;clear HKK;rcases (show(k=0) ∨ (k=1) ∨ (k=2 ∨ k=3 ∨ k=6) ∨ (k=4 ∨ k=7) ∨ (k=5) ∨ (k=8) ∨ (k=9) ∨ (k=10) ∨ (k=11 ∨ k=12 ∨ k=13 ∨ k=14) ∨ (k=15 ∨ k=16) ∨ (k=17) by omega) with hq | hq | hq | hq | hq | hq | hq | hq | hq | hq | hq
 ·subst hq
  obtain⟨Z1,hZ1⟩:∃ Y,Y=qd0 Y0 1 [uv x.number]:=⟨_,rfl⟩
  have S0:=lh (And.intro hs hZ1);replace hs:Z1.size=39:=by rw[hZ1,qb4,hs]
  clear hZ1
  obtain⟨Z2,hZ2⟩:∃ Y,Y=qd0 Z1 12 [iv x.letter.idm,iv x.letter.ids,.string x.letter.meth,.slice A1 x.letter.args.length c1]:=⟨_,rfl⟩
  have S1:=lh (And.intro hs hZ2);replace hs:Z2.size=39:=by rw[hZ2,qb4,hs]
  clear hZ2;have HRW:Hid (Z2=([iv x.kind,uv x.number,iv 0,.string ⟨#[]⟩,iv 0,iv 0,iv 0,uv 0,iv 0,iv 0,iv 0,bf,iv x.letter.idm,iv x.letter.ids,.string x.letter.meth,.slice A1 x.letter.args.length c1,uv 0,iv 0,iv 0,iv 0,iv 0,sn,sn,sn,iv 0,iv 0,iv 0,iv 0,uv 0,iv 0,bf,bf,iv 0,sn,iv 0,iv 0,sn,sn,sn]:List Value).toArray):=lh (by rw[S1.o.2,S0.o.2,HY0.o,row0 (A1:=A1) (A2:=A2) (A3:=A3) (A4:=A4) (A5:=A5) (A6:=A6) (A7:=A7) (A8:=A8) (c1:=c1) (c2:=c2) (c3:=c3) (c4:=c4) (c5:=c5) (c6:=c6) (c7:=c7) (c8:=c8) x]);have HO:Hid (Z2.all (·.oneCell')=true):=lh (by rw[HRW.o];kernel_rfl);have HSF:=lh hs;clear hs HY0
  go_upto_region 4 with fail
  clear a0;refine qc9 8 (fun i=>([[],[0],[],[2],[],[1,4],[],[3,6]]:List (List Nat)).getD i []) [5,7] (fun i=>([0,0,1,1,0,0,1,0]:List Nat).getD i 0) (fun zz=>([pq g 1,uv x.number,pq g 12,.agg #[iv x.letter.idm,iv x.letter.ids,.string x.letter.meth,.slice A1 x.letter.args.length c1],pq g5 1,bf,pq g5 12,bf]:List Value).getD zz (bf)) (KS g g5 M [Y0,Z1,Z2] w4) rfl (by kernel_rfl) (by rfl) (by kernel_rfl) ?_ ?_ ?_ ?_
  ·exact⟨HG0.o,HZ0.o,(Kp.refl _ w4).drew⟩
  ·intro zi hzi hn zo ho k vs w1 hk hlow hS hvs;rcases (show zi=0 ∨ zi=1 ∨ zi=2 ∨ zi=3 ∨ zi=4 ∨ zi=5 ∨ zi=6 ∨ zi=7 by omega) with rfl | rfl | rfl | rfl | rfl | rfl | rfl | rfl <;> cases ho
   ·clear hS hvs hlow hk hn;change Sem.run _ (execOp (Act.eval (frm _ _ _ [])) _) _=_;simp only[frm];go_simp
   ·have h0:vs 0=pq g 1:=hvs 0 (by decide) (by decide);replace hk:k≤0:=hk;have hbk:=hS.1;have fc0:cl w1 g 1 (uv x.number):=(hbk.cell 1).trans (by rw[HM.o];rfl);clear hbk;clear hS hvs hlow hk hn;change Sem.run _ (execOp (Act.eval (Act.put (frm _ _ _ []) (some 11) (vs 0))) _) _=_;simp only[frm,h0];go_simp
   ·clear hS hvs hlow hk hn;change Sem.run _ (execOp (Act.eval (frm _ _ _ [])) _) _=_;simp only[frm];go_simp
   ·have h2:vs 2=pq g 12:=hvs 2 (by decide) (by decide);replace hk:k≤1:=hk;have hbk:=hS.1;have fc0:cl w1 g 12 (iv x.letter.idm):=(hbk.cell 12).trans (by rw[HM.o];rfl);have fc1:cl w1 g 13 (iv x.letter.ids):=(hbk.cell 13).trans (by rw[HM.o];rfl);have fc2:cl w1 g 14 (.string x.letter.meth):=(hbk.cell 14).trans (by rw[HM.o];rfl);have fc3:cl w1 g 15 (.slice A1 x.letter.args.length c1):=(hbk.cell 15).trans (by rw[HM.o];rfl);clear hbk;clear hS hvs hlow hk hn;change Sem.run _ (execOp (Act.eval (Act.put (frm _ _ _ []) (some 13) (vs 2))) _) _=_;simp only[frm,h2];go_simp
   ·clear hS hvs hlow hk hn;change Sem.run _ (execOp (Act.eval (frm _ _ _ [])) _) _=_;simp only[frm];go_simp
   ·exact absurd (by decide) hn
   ·clear hS hvs hlow hk hn;change Sem.run _ (execOp (Act.eval (frm _ _ _ [])) _) _=_;simp only[frm];go_simp
   ·exact absurd (by decide) hn
  ·intro p hp o ho vs w1 hS hvs;rcases (show p=0 ∨ p=1 by change p < 2 at hp;omega) with rfl | rfl <;> cases ho
   ·replace hS:Bk w1 g 42 M∧Bk w1 g5 42 (Y0)∧Kp (fun k=>k=g5) w4 w1:=hS;have h1:vs 1=uv x.number:=hvs 1 (by decide) (by decide);have h4:vs 4=pq g5 1:=hvs 4 (by decide) (by decide)
    show Made _ (fun v w2=>Bk w2 g 42 M∧Bk w2 g5 42 (Z1)∧Kp (fun k=>k=g5) w4 w2) _
    change Made _ _ (Sem.run _ (execOp (Act.eval (Act.put (Act.put (frm _ _ _ []) (some 15) (vs 4)) (some 12) (vs 1))) _) _);have HS:=lh hS
    obtain⟨u0,hu0⟩:∃ u,w1.cell? ⟨g5,1,none⟩=some u:=⟨_,(hS.2.1.cell 1).trans (Array.getElem?_eq_getElem (by rw[S0.o.1];decide))⟩
    have e0:∀ j,w1.frozen? ⟨g5,j,none⟩=false:=fun j=>hS.2.1.free j;clear hS hvs;simp only[frm,h1,h4];go_simp;refine qa7 ⟨fz_keep0_1 HS.o.1 HNE.o _,?_,HS.o.2.2.trans (kz_keep0_1 _) (fun _ _ h=>h)⟩;rw[S0.o.2];exact bz_keep0_1 HS.o.2.1 _
   ·replace hS:Bk w1 g 42 M∧Bk w1 g5 42 (Z1)∧Kp (fun k=>k=g5) w4 w1:=hS;have h3:vs 3=.agg #[iv x.letter.idm,iv x.letter.ids,.string x.letter.meth,.slice A1 x.letter.args.length c1]:=hvs 3 (by decide) (by decide);have h6:vs 6=pq g5 12:=hvs 6 (by decide) (by decide)
    show Made _ (fun v w2=>Bk w2 g 42 M∧Bk w2 g5 42 (Z2)∧Kp (fun k=>k=g5) w4 w2) _
    change Made _ _ (Sem.run _ (execOp (Act.eval (Act.put (Act.put (frm _ _ _ []) (some 16) (vs 6)) (some 14) (vs 3))) _) _);have HS:=lh hS
    obtain⟨u0,hu0⟩:∃ u,w1.cell? ⟨g5,12,none⟩=some u:=⟨_,(hS.2.1.cell 12).trans (Array.getElem?_eq_getElem (by rw[S1.o.1];decide))⟩
    obtain⟨u1,hu1⟩:∃ u,w1.cell? ⟨g5,13,none⟩=some u:=⟨_,(hS.2.1.cell 13).trans (Array.getElem?_eq_getElem (by rw[S1.o.1];decide))⟩
    obtain⟨u2,hu2⟩:∃ u,w1.cell? ⟨g5,14,none⟩=some u:=⟨_,(hS.2.1.cell 14).trans (Array.getElem?_eq_getElem (by rw[S1.o.1];decide))⟩
    obtain⟨u3,hu3⟩:∃ u,w1.cell? ⟨g5,15,none⟩=some u:=⟨_,(hS.2.1.cell 15).trans (Array.getElem?_eq_getElem (by rw[S1.o.1];decide))⟩
    have e0:∀ j,w1.frozen? ⟨g5,j,none⟩=false:=fun j=>hS.2.1.free j;clear hS hvs;simp only[frm,h3,h6];go_simp;refine qa7 ⟨fz_keep0_5 HS.o.1 HNE.o _ _ _ _,?_,HS.o.2.2.trans (kz_keep0_5 _ _ _ _) (fun _ _ h=>h)⟩;rw[S1.o.2];exact bz_keep0_5 HS.o.2.1 _ _ _ _
  ·intro vs w5 hS hvs;replace hS:Bk w5 g 42 M∧Bk w5 g5 42 (Z2)∧Kp (fun k=>k=g5) w4 w5:=hS;change wpList _ _ _ [] (Act.put (Act.put (Act.put (Act.put (Act.put (Act.put (Act.put (Act.put (frm _ _ _ []) none (vs 7)) (some 16) (vs 6)) none (vs 5)) (some 15) (vs 4)) (some 14) (vs 3)) (some 13) (vs 2)) (some 12) (vs 1)) (some 11) (vs 0)) _;simp only[frm];clear hvs;generalize vs 0=z0;generalize vs 1=z1;generalize vs 2=z2;generalize vs 3=z3;generalize vs 4=z4;generalize vs 5=z5;generalize vs 6=z6;generalize vs 7=z7;have HZ5:=lh hS.2.1;have HP5:=lh hS.2.2;clear hS;simp only[Act.put,List.setIfInBounds_toArray,List.set_cons_succ,List.set_cons_zero]
   go_upto_region 29 with fail
   have HR5:=lh (HR4.o.kp HP5.o HNR.o);refine wp_region_list ?_;refine wpList_load_mid rfl _ _ rfl g5 0 rfl (Z2).toList _ HZ5.o.rng rfl rfl (by rw[Array.length_toList,HSF.o];rfl) ?_;simp only[Array.toArray_toList,Act.put,List.setIfInBounds_toArray,List.set_cons_succ,List.set_cons_zero];refine wpList_store_row (P:=Tryz.prog) rfl 42 _ _ rfl gr (Z2) rfl rfl _ _ HR5.o (by rw[HSF.o];rfl) (by rw[HSF.o];rfl) HO.o ?_
   go_wp2_with fail
   try simp only[Exit.inBlock,Exit.then]
   refine bodyPost_ret (v:=.agg (Z2)) (qc5 (P:=Tryz.prog) rfl _ _ gr 42 (Z2) _ rfl (setRow_heap _ _ _ _ _ _ HR5.o) rfl rfl (by rw[HSF.o];rfl)) rfl ?_
   exact HEND.o _ _ _ _ HZ5.o HP5.o HR5.o rfl HRW.o fun V hb=>⟨A1,c1,none,0,none,0,none,0,none,0,none,0,none,0,none,0,rfl,LsI.below (show LsI _ _ _ _ _ _ _ from HL.o.1) (qa1 rfC) (qa0 rfC) hb,LsR.tnil,LsR.tnil,LsR.tnil,LsR.tnil,LsR.tnil,LsR.tnil,LsR.tnil⟩
 ·subst hq
  obtain⟨Z1,hZ1⟩:∃ Y,Y=qd0 Y0 16 [uv x.parcel.number,iv x.parcel.idm,iv x.parcel.ids,iv x.parcel.kind,iv x.parcel.cls,.slice A2 x.parcel.fields.length c2,.slice A3 x.parcel.mail.length c3,.slice A4 x.parcel.watches.length c4]:=⟨_,rfl⟩
  have S0:=lh (And.intro hs hZ1);replace hs:Z1.size=39:=by rw[hZ1,qb4,hs]
  clear hZ1;have HRW:Hid (Z1=([iv x.kind,uv 0,iv 0,.string ⟨#[]⟩,iv 0,iv 0,iv 0,uv 0,iv 0,iv 0,iv 0,bf,iv 0,iv 0,.string ⟨#[]⟩,sn,uv x.parcel.number,iv x.parcel.idm,iv x.parcel.ids,iv x.parcel.kind,iv x.parcel.cls,.slice A2 x.parcel.fields.length c2,.slice A3 x.parcel.mail.length c3,.slice A4 x.parcel.watches.length c4,iv 0,iv 0,iv 0,iv 0,uv 0,iv 0,bf,bf,iv 0,sn,iv 0,iv 0,sn,sn,sn]:List Value).toArray):=lh (by rw[S0.o.2,HY0.o,row1 (A1:=A1) (A2:=A2) (A3:=A3) (A4:=A4) (A5:=A5) (A6:=A6) (A7:=A7) (A8:=A8) (c1:=c1) (c2:=c2) (c3:=c3) (c4:=c4) (c5:=c5) (c6:=c6) (c7:=c7) (c8:=c8) x]);have HO:Hid (Z1.all (·.oneCell')=true):=lh (by rw[HRW.o];kernel_rfl);have HSF:=lh hs;clear hs HY0
  go_upto_region 6 with fail
  have b16:cl w4 g 16 (uv x.parcel.number):=(HG0.o.cell 16).trans (by rw[HM.o];rfl)
  obtain⟨u16,hu16⟩:∃ u,w4.cell? ⟨g5,16,none⟩=some u:=⟨_,(HZ0.o.cell 16).trans (Array.getElem?_eq_getElem (by rw[S0.o.1];decide))⟩
  have b17:cl w4 g 17 (iv x.parcel.idm):=(HG0.o.cell 17).trans (by rw[HM.o];rfl)
  obtain⟨u17,hu17⟩:∃ u,w4.cell? ⟨g5,17,none⟩=some u:=⟨_,(HZ0.o.cell 17).trans (Array.getElem?_eq_getElem (by rw[S0.o.1];decide))⟩
  have b18:cl w4 g 18 (iv x.parcel.ids):=(HG0.o.cell 18).trans (by rw[HM.o];rfl)
  obtain⟨u18,hu18⟩:∃ u,w4.cell? ⟨g5,18,none⟩=some u:=⟨_,(HZ0.o.cell 18).trans (Array.getElem?_eq_getElem (by rw[S0.o.1];decide))⟩
  have b19:cl w4 g 19 (iv x.parcel.kind):=(HG0.o.cell 19).trans (by rw[HM.o];rfl)
  obtain⟨u19,hu19⟩:∃ u,w4.cell? ⟨g5,19,none⟩=some u:=⟨_,(HZ0.o.cell 19).trans (Array.getElem?_eq_getElem (by rw[S0.o.1];decide))⟩
  have b20:cl w4 g 20 (iv x.parcel.cls):=(HG0.o.cell 20).trans (by rw[HM.o];rfl)
  obtain⟨u20,hu20⟩:∃ u,w4.cell? ⟨g5,20,none⟩=some u:=⟨_,(HZ0.o.cell 20).trans (Array.getElem?_eq_getElem (by rw[S0.o.1];decide))⟩
  have b21:cl w4 g 21 (.slice A2 x.parcel.fields.length c2):=(HG0.o.cell 21).trans (by rw[HM.o];rfl)
  obtain⟨u21,hu21⟩:∃ u,w4.cell? ⟨g5,21,none⟩=some u:=⟨_,(HZ0.o.cell 21).trans (Array.getElem?_eq_getElem (by rw[S0.o.1];decide))⟩
  have b22:cl w4 g 22 (.slice A3 x.parcel.mail.length c3):=(HG0.o.cell 22).trans (by rw[HM.o];rfl)
  obtain⟨u22,hu22⟩:∃ u,w4.cell? ⟨g5,22,none⟩=some u:=⟨_,(HZ0.o.cell 22).trans (Array.getElem?_eq_getElem (by rw[S0.o.1];decide))⟩
  have b23:cl w4 g 23 (.slice A4 x.parcel.watches.length c4):=(HG0.o.cell 23).trans (by rw[HM.o];rfl)
  obtain⟨u23,hu23⟩:∃ u,w4.cell? ⟨g5,23,none⟩=some u:=⟨_,(HZ0.o.cell 23).trans (Array.getElem?_eq_getElem (by rw[S0.o.1];decide))⟩
  have e0:∀ j,w4.frozen? ⟨g5,j,none⟩=false:=fun j=>HZ0.o.free j
  obtain⟨w5,hw5⟩:∃ w5,w5=((((((((w4).setCell ⟨g5,16,none⟩ (uv x.parcel.number)).setCell ⟨g5,17,none⟩ (iv x.parcel.idm)).setCell ⟨g5,18,none⟩ (iv x.parcel.ids)).setCell ⟨g5,19,none⟩ (iv x.parcel.kind)).setCell ⟨g5,20,none⟩ (iv x.parcel.cls)).setCell ⟨g5,21,none⟩ (.slice A2 x.parcel.fields.length c2)).setCell ⟨g5,22,none⟩ (.slice A3 x.parcel.mail.length c3)).setCell ⟨g5,23,none⟩ (.slice A4 x.parcel.watches.length c4):=⟨_,rfl⟩
  have hZ5:Bk w5 g5 42 Z1:=by rw[hw5,S0.o.2];exact bz_keep1 HZ0.o (uv x.parcel.number) (iv x.parcel.idm) (iv x.parcel.ids) (iv x.parcel.kind) (iv x.parcel.cls) (.slice A2 x.parcel.fields.length c2) (.slice A3 x.parcel.mail.length c3) (.slice A4 x.parcel.watches.length c4)
  have hK5:Kp (fun k=>k=g5) w4 w5:=by rw[hw5];exact kz_keep1 (uv x.parcel.number) (iv x.parcel.idm) (iv x.parcel.ids) (iv x.parcel.kind) (iv x.parcel.cls) (.slice A2 x.parcel.fields.length c2) (.slice A3 x.parcel.mail.length c3) (.slice A4 x.parcel.watches.length c4)
  go_upto_region 29 with fail
  rw[← hw5];clear hw5 e0 a0 b16 hu16 b17 hu17 b18 hu18 b19 hu19 b20 hu20 b21 hu21 b22 hu22 b23 hu23;have HZ5:=lh hZ5;have HP5:=lh hK5;clear hZ5 hK5;have HR5:=lh (HR4.o.kp HP5.o HNR.o);refine wp_region_list ?_;refine wpList_load_mid rfl _ _ rfl g5 0 rfl (Z1).toList _ HZ5.o.rng rfl rfl (by rw[Array.length_toList,HSF.o];rfl) ?_;simp only[Array.toArray_toList,Act.put,List.setIfInBounds_toArray,List.set_cons_succ,List.set_cons_zero];refine wpList_store_row (P:=Tryz.prog) rfl 42 _ _ rfl gr (Z1) rfl rfl _ _ HR5.o (by rw[HSF.o];rfl) (by rw[HSF.o];rfl) HO.o ?_
  go_wp2_with fail
  try simp only[Exit.inBlock,Exit.then]
  refine bodyPost_ret (v:=.agg (Z1)) (qc5 (P:=Tryz.prog) rfl _ _ gr 42 (Z1) _ rfl (setRow_heap _ _ _ _ _ _ HR5.o) rfl rfl (by rw[HSF.o];rfl)) rfl ?_
  exact HEND.o _ _ _ _ HZ5.o HP5.o HR5.o rfl HRW.o fun V hb=>⟨none,0,A2,c2,A3,c3,A4,c4,none,0,none,0,none,0,none,0,rfl,LsR.tnil,LsI.below (show LsI _ _ _ _ _ _ _ from HL.o.2.1) (qa1 rfC) (qa0 rfC) hb,LsI.below (show LsI _ _ _ _ _ _ _ from HL.o.2.2.1) qg1 ltR_rk hb,LsI.below (show LsI _ _ _ _ _ _ _ from HL.o.2.2.2.1) (qa1 waC) (qa0 waC) hb,LsR.tnil,LsR.tnil,LsR.tnil,LsR.tnil⟩
 ·rcases hq with rfl | rfl | rfl
  all_goals
   obtain⟨Z1,hZ1⟩:∃ Y,Y=qd0 Y0 1 [uv x.number]:=⟨_,rfl⟩
   have S0:=lh (And.intro hs hZ1);replace hs:Z1.size=39:=by rw[hZ1,qb4,hs]
   clear hZ1
   obtain⟨Z2,hZ2⟩:∃ Y,Y=qd0 Z1 2 [iv x.asker]:=⟨_,rfl⟩
   have S1:=lh (And.intro hs hZ2);replace hs:Z2.size=39:=by rw[hZ2,qb4,hs]
   clear hZ2;have HRW:Hid (Z2=([iv x.kind,uv x.number,iv x.asker,.string ⟨#[]⟩,iv 0,iv 0,iv 0,uv 0,iv 0,iv 0,iv 0,bf,iv 0,iv 0,.string ⟨#[]⟩,sn,uv 0,iv 0,iv 0,iv 0,iv 0,sn,sn,sn,iv 0,iv 0,iv 0,iv 0,uv 0,iv 0,bf,bf,iv 0,sn,iv 0,iv 0,sn,sn,sn]:List Value).toArray):=lh (by rw[S1.o.2,S0.o.2,HY0.o,row2 (A1:=A1) (A2:=A2) (A3:=A3) (A4:=A4) (A5:=A5) (A6:=A6) (A7:=A7) (A8:=A8) (c1:=c1) (c2:=c2) (c3:=c3) (c4:=c4) (c5:=c5) (c6:=c6) (c7:=c7) (c8:=c8) x]);have HO:Hid (Z2.all (·.oneCell')=true):=lh (by rw[HRW.o];kernel_rfl);have HSF:=lh hs;clear hs HY0
   go_upto_region 10 with fail
   clear a0;refine qc9 8 (fun i=>([[],[0],[],[2],[],[1,4],[],[3,6]]:List (List Nat)).getD i []) [5,7] (fun i=>([0,0,1,1,0,0,1,0]:List Nat).getD i 0) (fun zz=>([pq g 1,uv x.number,pq g 2,iv x.asker,pq g5 1,bf,pq g5 2,bf]:List Value).getD zz (bf)) (KS g g5 M [Y0,Z1,Z2] w4) rfl (by kernel_rfl) (by rfl) (by kernel_rfl) ?_ ?_ ?_ ?_
   ·exact⟨HG0.o,HZ0.o,(Kp.refl _ w4).drew⟩
   ·intro zi hzi hn zo ho k vs w1 hk hlow hS hvs;rcases (show zi=0 ∨ zi=1 ∨ zi=2 ∨ zi=3 ∨ zi=4 ∨ zi=5 ∨ zi=6 ∨ zi=7 by omega) with rfl | rfl | rfl | rfl | rfl | rfl | rfl | rfl <;> cases ho
    ·clear hS hvs hlow hk hn;change Sem.run _ (execOp (Act.eval (frm _ _ _ [])) _) _=_;simp only[frm];go_simp
    ·have h0:vs 0=pq g 1:=hvs 0 (by decide) (by decide);replace hk:k≤0:=hk;have hbk:=hS.1;have fc0:cl w1 g 1 (uv x.number):=(hbk.cell 1).trans (by rw[HM.o];rfl);clear hbk;clear hS hvs hlow hk hn;change Sem.run _ (execOp (Act.eval (Act.put (frm _ _ _ []) (some 26) (vs 0))) _) _=_;simp only[frm,h0];go_simp
    ·clear hS hvs hlow hk hn;change Sem.run _ (execOp (Act.eval (frm _ _ _ [])) _) _=_;simp only[frm];go_simp
    ·have h2:vs 2=pq g 2:=hvs 2 (by decide) (by decide);replace hk:k≤1:=hk;have hbk:=hS.1;have fc0:cl w1 g 2 (iv x.asker):=(hbk.cell 2).trans (by rw[HM.o];rfl);clear hbk;clear hS hvs hlow hk hn;change Sem.run _ (execOp (Act.eval (Act.put (frm _ _ _ []) (some 28) (vs 2))) _) _=_;simp only[frm,h2];go_simp
    ·clear hS hvs hlow hk hn;change Sem.run _ (execOp (Act.eval (frm _ _ _ [])) _) _=_;simp only[frm];go_simp
    ·exact absurd (by decide) hn
    ·clear hS hvs hlow hk hn;change Sem.run _ (execOp (Act.eval (frm _ _ _ [])) _) _=_;simp only[frm];go_simp
    ·exact absurd (by decide) hn
   ·intro p hp o ho vs w1 hS hvs;rcases (show p=0 ∨ p=1 by change p < 2 at hp;omega) with rfl | rfl <;> cases ho
    ·replace hS:Bk w1 g 42 M∧Bk w1 g5 42 (Y0)∧Kp (fun k=>k=g5) w4 w1:=hS;have h1:vs 1=uv x.number:=hvs 1 (by decide) (by decide);have h4:vs 4=pq g5 1:=hvs 4 (by decide) (by decide)
     show Made _ (fun v w2=>Bk w2 g 42 M∧Bk w2 g5 42 (Z1)∧Kp (fun k=>k=g5) w4 w2) _
     change Made _ _ (Sem.run _ (execOp (Act.eval (Act.put (Act.put (frm _ _ _ []) (some 30) (vs 4)) (some 27) (vs 1))) _) _);have HS:=lh hS
     obtain⟨u0,hu0⟩:∃ u,w1.cell? ⟨g5,1,none⟩=some u:=⟨_,(hS.2.1.cell 1).trans (Array.getElem?_eq_getElem (by rw[S0.o.1];decide))⟩
     have e0:∀ j,w1.frozen? ⟨g5,j,none⟩=false:=fun j=>hS.2.1.free j;clear hS hvs;simp only[frm,h1,h4];go_simp;refine qa7 ⟨fz_keep2_1 HS.o.1 HNE.o _,?_,HS.o.2.2.trans (kz_keep2_1 _) (fun _ _ h=>h)⟩;rw[S0.o.2];exact bz_keep2_1 HS.o.2.1 _
    ·replace hS:Bk w1 g 42 M∧Bk w1 g5 42 (Z1)∧Kp (fun k=>k=g5) w4 w1:=hS;have h3:vs 3=iv x.asker:=hvs 3 (by decide) (by decide);have h6:vs 6=pq g5 2:=hvs 6 (by decide) (by decide)
     show Made _ (fun v w2=>Bk w2 g 42 M∧Bk w2 g5 42 (Z2)∧Kp (fun k=>k=g5) w4 w2) _
     change Made _ _ (Sem.run _ (execOp (Act.eval (Act.put (Act.put (frm _ _ _ []) (some 31) (vs 6)) (some 29) (vs 3))) _) _);have HS:=lh hS
     obtain⟨u0,hu0⟩:∃ u,w1.cell? ⟨g5,2,none⟩=some u:=⟨_,(hS.2.1.cell 2).trans (Array.getElem?_eq_getElem (by rw[S1.o.1];decide))⟩
     have e0:∀ j,w1.frozen? ⟨g5,j,none⟩=false:=fun j=>hS.2.1.free j;clear hS hvs;simp only[frm,h3,h6];go_simp;refine qa7 ⟨fz_keep2_2 HS.o.1 HNE.o _,?_,HS.o.2.2.trans (kz_keep2_2 _) (fun _ _ h=>h)⟩;rw[S1.o.2];exact bz_keep2_2 HS.o.2.1 _
   ·intro vs w5 hS hvs;replace hS:Bk w5 g 42 M∧Bk w5 g5 42 (Z2)∧Kp (fun k=>k=g5) w4 w5:=hS;change wpList _ _ _ [] (Act.put (Act.put (Act.put (Act.put (Act.put (Act.put (Act.put (Act.put (frm _ _ _ []) none (vs 7)) (some 31) (vs 6)) none (vs 5)) (some 30) (vs 4)) (some 29) (vs 3)) (some 28) (vs 2)) (some 27) (vs 1)) (some 26) (vs 0)) _;simp only[frm];clear hvs;generalize vs 0=z0;generalize vs 1=z1;generalize vs 2=z2;generalize vs 3=z3;generalize vs 4=z4;generalize vs 5=z5;generalize vs 6=z6;generalize vs 7=z7;have HZ5:=lh hS.2.1;have HP5:=lh hS.2.2;clear hS;simp only[Act.put,List.setIfInBounds_toArray,List.set_cons_succ,List.set_cons_zero]
    go_upto_region 29 with fail
    have HR5:=lh (HR4.o.kp HP5.o HNR.o);refine wp_region_list ?_;refine wpList_load_mid rfl _ _ rfl g5 0 rfl (Z2).toList _ HZ5.o.rng rfl rfl (by rw[Array.length_toList,HSF.o];rfl) ?_;simp only[Array.toArray_toList,Act.put,List.setIfInBounds_toArray,List.set_cons_succ,List.set_cons_zero];refine wpList_store_row (P:=Tryz.prog) rfl 42 _ _ rfl gr (Z2) rfl rfl _ _ HR5.o (by rw[HSF.o];rfl) (by rw[HSF.o];rfl) HO.o ?_
    go_wp2_with fail
    try simp only[Exit.inBlock,Exit.then]
    refine bodyPost_ret (v:=.agg (Z2)) (qc5 (P:=Tryz.prog) rfl _ _ gr 42 (Z2) _ rfl (setRow_heap _ _ _ _ _ _ HR5.o) rfl rfl (by rw[HSF.o];rfl)) rfl ?_
    exact HEND.o _ _ _ _ HZ5.o HP5.o HR5.o rfl HRW.o fun V hb=>⟨none,0,none,0,none,0,none,0,none,0,none,0,none,0,none,0,rfl,LsR.tnil,LsR.tnil,LsR.tnil,LsR.tnil,LsR.tnil,LsR.tnil,LsR.tnil,LsR.tnil⟩
 ·rcases hq with rfl | rfl
  all_goals
   obtain⟨Z1,hZ1⟩:∃ Y,Y=qd0 Y0 4 [iv x.ref.kind,iv x.ref.int,iv x.ref.owner,uv x.ref.number,iv x.ref.idm,iv x.ref.ids,iv x.ref.cls,.bool x.ref.weak]:=⟨_,rfl⟩
   have S0:=lh (And.intro hs hZ1);replace hs:Z1.size=39:=by rw[hZ1,qb4,hs]
   clear hZ1;have HRW:Hid (Z1=([iv x.kind,uv 0,iv 0,.string ⟨#[]⟩,iv x.ref.kind,iv x.ref.int,iv x.ref.owner,uv x.ref.number,iv x.ref.idm,iv x.ref.ids,iv x.ref.cls,.bool x.ref.weak,iv 0,iv 0,.string ⟨#[]⟩,sn,uv 0,iv 0,iv 0,iv 0,iv 0,sn,sn,sn,iv 0,iv 0,iv 0,iv 0,uv 0,iv 0,bf,bf,iv 0,sn,iv 0,iv 0,sn,sn,sn]:List Value).toArray):=lh (by rw[S0.o.2,HY0.o,row4 (A1:=A1) (A2:=A2) (A3:=A3) (A4:=A4) (A5:=A5) (A6:=A6) (A7:=A7) (A8:=A8) (c1:=c1) (c2:=c2) (c3:=c3) (c4:=c4) (c5:=c5) (c6:=c6) (c7:=c7) (c8:=c8) x]);have HO:Hid (Z1.all (·.oneCell')=true):=lh (by rw[HRW.o];kernel_rfl);have HSF:=lh hs;clear hs HY0
   go_upto_region 13 with fail
   have b4:cl w4 g 4 (iv x.ref.kind):=(HG0.o.cell 4).trans (by rw[HM.o];rfl)
   obtain⟨u4,hu4⟩:∃ u,w4.cell? ⟨g5,4,none⟩=some u:=⟨_,(HZ0.o.cell 4).trans (Array.getElem?_eq_getElem (by rw[S0.o.1];decide))⟩
   have b5:cl w4 g 5 (iv x.ref.int):=(HG0.o.cell 5).trans (by rw[HM.o];rfl)
   obtain⟨u5,hu5⟩:∃ u,w4.cell? ⟨g5,5,none⟩=some u:=⟨_,(HZ0.o.cell 5).trans (Array.getElem?_eq_getElem (by rw[S0.o.1];decide))⟩
   have b6:cl w4 g 6 (iv x.ref.owner):=(HG0.o.cell 6).trans (by rw[HM.o];rfl)
   obtain⟨u6,hu6⟩:∃ u,w4.cell? ⟨g5,6,none⟩=some u:=⟨_,(HZ0.o.cell 6).trans (Array.getElem?_eq_getElem (by rw[S0.o.1];decide))⟩
   have b7:cl w4 g 7 (uv x.ref.number):=(HG0.o.cell 7).trans (by rw[HM.o];rfl)
   obtain⟨u7,hu7⟩:∃ u,w4.cell? ⟨g5,7,none⟩=some u:=⟨_,(HZ0.o.cell 7).trans (Array.getElem?_eq_getElem (by rw[S0.o.1];decide))⟩
   have b8:cl w4 g 8 (iv x.ref.idm):=(HG0.o.cell 8).trans (by rw[HM.o];rfl)
   obtain⟨u8,hu8⟩:∃ u,w4.cell? ⟨g5,8,none⟩=some u:=⟨_,(HZ0.o.cell 8).trans (Array.getElem?_eq_getElem (by rw[S0.o.1];decide))⟩
   have b9:cl w4 g 9 (iv x.ref.ids):=(HG0.o.cell 9).trans (by rw[HM.o];rfl)
   obtain⟨u9,hu9⟩:∃ u,w4.cell? ⟨g5,9,none⟩=some u:=⟨_,(HZ0.o.cell 9).trans (Array.getElem?_eq_getElem (by rw[S0.o.1];decide))⟩
   have b10:cl w4 g 10 (iv x.ref.cls):=(HG0.o.cell 10).trans (by rw[HM.o];rfl)
   obtain⟨u10,hu10⟩:∃ u,w4.cell? ⟨g5,10,none⟩=some u:=⟨_,(HZ0.o.cell 10).trans (Array.getElem?_eq_getElem (by rw[S0.o.1];decide))⟩
   have b11:cl w4 g 11 (.bool x.ref.weak):=(HG0.o.cell 11).trans (by rw[HM.o];rfl)
   obtain⟨u11,hu11⟩:∃ u,w4.cell? ⟨g5,11,none⟩=some u:=⟨_,(HZ0.o.cell 11).trans (Array.getElem?_eq_getElem (by rw[S0.o.1];decide))⟩
   have e0:∀ j,w4.frozen? ⟨g5,j,none⟩=false:=fun j=>HZ0.o.free j
   obtain⟨w5,hw5⟩:∃ w5,w5=((((((((w4).setCell ⟨g5,4,none⟩ (iv x.ref.kind)).setCell ⟨g5,5,none⟩ (iv x.ref.int)).setCell ⟨g5,6,none⟩ (iv x.ref.owner)).setCell ⟨g5,7,none⟩ (uv x.ref.number)).setCell ⟨g5,8,none⟩ (iv x.ref.idm)).setCell ⟨g5,9,none⟩ (iv x.ref.ids)).setCell ⟨g5,10,none⟩ (iv x.ref.cls)).setCell ⟨g5,11,none⟩ (.bool x.ref.weak):=⟨_,rfl⟩
   have hZ5:Bk w5 g5 42 Z1:=by rw[hw5,S0.o.2];exact bz_keep4 HZ0.o (iv x.ref.kind) (iv x.ref.int) (iv x.ref.owner) (uv x.ref.number) (iv x.ref.idm) (iv x.ref.ids) (iv x.ref.cls) (.bool x.ref.weak)
   have hK5:Kp (fun k=>k=g5) w4 w5:=by rw[hw5];exact kz_keep4 (iv x.ref.kind) (iv x.ref.int) (iv x.ref.owner) (uv x.ref.number) (iv x.ref.idm) (iv x.ref.ids) (iv x.ref.cls) (.bool x.ref.weak)
   go_upto_region 29 with fail
   rw[← hw5];clear hw5 e0 a0 b4 hu4 b5 hu5 b6 hu6 b7 hu7 b8 hu8 b9 hu9 b10 hu10 b11 hu11;have HZ5:=lh hZ5;have HP5:=lh hK5;clear hZ5 hK5;have HR5:=lh (HR4.o.kp HP5.o HNR.o);refine wp_region_list ?_;refine wpList_load_mid rfl _ _ rfl g5 0 rfl (Z1).toList _ HZ5.o.rng rfl rfl (by rw[Array.length_toList,HSF.o];rfl) ?_;simp only[Array.toArray_toList,Act.put,List.setIfInBounds_toArray,List.set_cons_succ,List.set_cons_zero];refine wpList_store_row (P:=Tryz.prog) rfl 42 _ _ rfl gr (Z1) rfl rfl _ _ HR5.o (by rw[HSF.o];rfl) (by rw[HSF.o];rfl) HO.o ?_
   go_wp2_with fail
   try simp only[Exit.inBlock,Exit.then]
   refine bodyPost_ret (v:=.agg (Z1)) (qc5 (P:=Tryz.prog) rfl _ _ gr 42 (Z1) _ rfl (setRow_heap _ _ _ _ _ _ HR5.o) rfl rfl (by rw[HSF.o];rfl)) rfl ?_
   exact HEND.o _ _ _ _ HZ5.o HP5.o HR5.o rfl HRW.o fun V hb=>⟨none,0,none,0,none,0,none,0,none,0,none,0,none,0,none,0,rfl,LsR.tnil,LsR.tnil,LsR.tnil,LsR.tnil,LsR.tnil,LsR.tnil,LsR.tnil,LsR.tnil⟩
 ·subst hq
  obtain⟨Z1,hZ1⟩:∃ Y,Y=qd0 Y0 1 [uv x.number]:=⟨_,rfl⟩
  have S0:=lh (And.intro hs hZ1);replace hs:Z1.size=39:=by rw[hZ1,qb4,hs]
  clear hZ1;have HRW:Hid (Z1=([iv x.kind,uv x.number,iv 0,.string ⟨#[]⟩,iv 0,iv 0,iv 0,uv 0,iv 0,iv 0,iv 0,bf,iv 0,iv 0,.string ⟨#[]⟩,sn,uv 0,iv 0,iv 0,iv 0,iv 0,sn,sn,sn,iv 0,iv 0,iv 0,iv 0,uv 0,iv 0,bf,bf,iv 0,sn,iv 0,iv 0,sn,sn,sn]:List Value).toArray):=lh (by rw[S0.o.2,HY0.o,row5 (A1:=A1) (A2:=A2) (A3:=A3) (A4:=A4) (A5:=A5) (A6:=A6) (A7:=A7) (A8:=A8) (c1:=c1) (c2:=c2) (c3:=c3) (c4:=c4) (c5:=c5) (c6:=c6) (c7:=c7) (c8:=c8) x]);have HO:Hid (Z1.all (·.oneCell')=true):=lh (by rw[HRW.o];kernel_rfl);have HSF:=lh hs;clear hs HY0
  go_upto_region 15 with fail
  have b1:cl w4 g 1 (uv x.number):=(HG0.o.cell 1).trans (by rw[HM.o];rfl)
  obtain⟨u1,hu1⟩:∃ u,w4.cell? ⟨g5,1,none⟩=some u:=⟨_,(HZ0.o.cell 1).trans (Array.getElem?_eq_getElem (by rw[S0.o.1];decide))⟩
  have e0:∀ j,w4.frozen? ⟨g5,j,none⟩=false:=fun j=>HZ0.o.free j
  obtain⟨w5,hw5⟩:∃ w5,w5=(w4).setCell ⟨g5,1,none⟩ (uv x.number):=⟨_,rfl⟩
  have hZ5:Bk w5 g5 42 Z1:=by rw[hw5,S0.o.2];exact bz_keep5 HZ0.o (uv x.number)
  have hK5:Kp (fun k=>k=g5) w4 w5:=by rw[hw5];exact kz_keep5 (uv x.number)
  go_upto_region 29 with fail
  rw[← hw5];clear hw5 e0 a0 b1 hu1;have HZ5:=lh hZ5;have HP5:=lh hK5;clear hZ5 hK5;have HR5:=lh (HR4.o.kp HP5.o HNR.o);refine wp_region_list ?_;refine wpList_load_mid rfl _ _ rfl g5 0 rfl (Z1).toList _ HZ5.o.rng rfl rfl (by rw[Array.length_toList,HSF.o];rfl) ?_;simp only[Array.toArray_toList,Act.put,List.setIfInBounds_toArray,List.set_cons_succ,List.set_cons_zero];refine wpList_store_row (P:=Tryz.prog) rfl 42 _ _ rfl gr (Z1) rfl rfl _ _ HR5.o (by rw[HSF.o];rfl) (by rw[HSF.o];rfl) HO.o ?_
  go_wp2_with fail
  try simp only[Exit.inBlock,Exit.then]
  refine bodyPost_ret (v:=.agg (Z1)) (qc5 (P:=Tryz.prog) rfl _ _ gr 42 (Z1) _ rfl (setRow_heap _ _ _ _ _ _ HR5.o) rfl rfl (by rw[HSF.o];rfl)) rfl ?_
  exact HEND.o _ _ _ _ HZ5.o HP5.o HR5.o rfl HRW.o fun V hb=>⟨none,0,none,0,none,0,none,0,none,0,none,0,none,0,none,0,rfl,LsR.tnil,LsR.tnil,LsR.tnil,LsR.tnil,LsR.tnil,LsR.tnil,LsR.tnil,LsR.tnil⟩
 ·subst hq
  obtain⟨Z1,hZ1⟩:∃ Y,Y=qd0 Y0 24 [iv x.tm,iv x.ts]:=⟨_,rfl⟩
  have S0:=lh (And.intro hs hZ1);replace hs:Z1.size=39:=by rw[hZ1,qb4,hs]
  clear hZ1
  obtain⟨Z2,hZ2⟩:∃ Y,Y=qd0 Z1 1 [uv x.number]:=⟨_,rfl⟩
  have S1:=lh (And.intro hs hZ2);replace hs:Z2.size=39:=by rw[hZ2,qb4,hs]
  clear hZ2
  obtain⟨Z3,hZ3⟩:∃ Y,Y=qd0 Z2 2 [iv x.asker]:=⟨_,rfl⟩
  have S2:=lh (And.intro hs hZ3);replace hs:Z3.size=39:=by rw[hZ3,qb4,hs]
  clear hZ3;have HRW:Hid (Z3=([iv x.kind,uv x.number,iv x.asker,.string ⟨#[]⟩,iv 0,iv 0,iv 0,uv 0,iv 0,iv 0,iv 0,bf,iv 0,iv 0,.string ⟨#[]⟩,sn,uv 0,iv 0,iv 0,iv 0,iv 0,sn,sn,sn,iv x.tm,iv x.ts,iv 0,iv 0,uv 0,iv 0,bf,bf,iv 0,sn,iv 0,iv 0,sn,sn,sn]:List Value).toArray):=lh (by rw[S2.o.2,S1.o.2,S0.o.2,HY0.o,row8 (A1:=A1) (A2:=A2) (A3:=A3) (A4:=A4) (A5:=A5) (A6:=A6) (A7:=A7) (A8:=A8) (c1:=c1) (c2:=c2) (c3:=c3) (c4:=c4) (c5:=c5) (c6:=c6) (c7:=c7) (c8:=c8) x]);have HO:Hid (Z3.all (·.oneCell')=true):=lh (by rw[HRW.o];kernel_rfl);have HSF:=lh hs;clear hs HY0
  go_upto_region 17 with fail
  clear a0;refine qc9 12 (fun i=>([[],[0],[],[2],[],[4],[],[1,6],[],[3,8],[],[5,10]]:List (List Nat)).getD i []) [7,9,11] (fun i=>([0,0,1,1,2,2,0,0,1,0,2,0]:List Nat).getD i 0) (fun zz=>([pq g 24,.agg #[iv x.tm,iv x.ts],pq g 1,uv x.number,pq g 2,iv x.asker,pq g5 24,bf,pq g5 1,bf,pq g5 2,bf]:List Value).getD zz (bf)) (KS g g5 M [Y0,Z1,Z2,Z3] w4) rfl (by kernel_rfl) (by rfl) (by kernel_rfl) ?_ ?_ ?_ ?_
  ·exact⟨HG0.o,HZ0.o,(Kp.refl _ w4).drew⟩
  ·intro zi hzi hn zo ho k vs w1 hk hlow hS hvs;rcases (show zi=0 ∨ zi=1 ∨ zi=2 ∨ zi=3 ∨ zi=4 ∨ zi=5 ∨ zi=6 ∨ zi=7 ∨ zi=8 ∨ zi=9 ∨ zi=10 ∨ zi=11 by omega) with rfl | rfl | rfl | rfl | rfl | rfl | rfl | rfl | rfl | rfl | rfl | rfl <;> cases ho
   ·clear hS hvs hlow hk hn;change Sem.run _ (execOp (Act.eval (frm _ _ _ [])) _) _=_;simp only[frm];go_simp
   ·have h0:vs 0=pq g 24:=hvs 0 (by decide) (by decide);replace hk:k≤0:=hk;have hbk:=hS.1;have fc0:cl w1 g 24 (iv x.tm):=(hbk.cell 24).trans (by rw[HM.o];rfl);have fc1:cl w1 g 25 (iv x.ts):=(hbk.cell 25).trans (by rw[HM.o];rfl);clear hbk;clear hS hvs hlow hk hn;change Sem.run _ (execOp (Act.eval (Act.put (frm _ _ _ []) (some 45) (vs 0))) _) _=_;simp only[frm,h0];go_simp
   ·clear hS hvs hlow hk hn;change Sem.run _ (execOp (Act.eval (frm _ _ _ [])) _) _=_;simp only[frm];go_simp
   ·have h2:vs 2=pq g 1:=hvs 2 (by decide) (by decide);replace hk:k≤1:=hk;have hbk:=hS.1;have fc0:cl w1 g 1 (uv x.number):=(hbk.cell 1).trans (by rw[HM.o];rfl);clear hbk;clear hS hvs hlow hk hn;change Sem.run _ (execOp (Act.eval (Act.put (frm _ _ _ []) (some 47) (vs 2))) _) _=_;simp only[frm,h2];go_simp
   ·clear hS hvs hlow hk hn;change Sem.run _ (execOp (Act.eval (frm _ _ _ [])) _) _=_;simp only[frm];go_simp
   ·have h4:vs 4=pq g 2:=hvs 4 (by decide) (by decide);replace hk:k≤2:=hk;have hbk:=hS.1;have fc0:cl w1 g 2 (iv x.asker):=(hbk.cell 2).trans (by rw[HM.o];rfl);clear hbk;clear hS hvs hlow hk hn;change Sem.run _ (execOp (Act.eval (Act.put (frm _ _ _ []) (some 49) (vs 4))) _) _=_;simp only[frm,h4];go_simp
   ·clear hS hvs hlow hk hn;change Sem.run _ (execOp (Act.eval (frm _ _ _ [])) _) _=_;simp only[frm];go_simp
   ·exact absurd (by decide) hn
   ·clear hS hvs hlow hk hn;change Sem.run _ (execOp (Act.eval (frm _ _ _ [])) _) _=_;simp only[frm];go_simp
   ·exact absurd (by decide) hn
   ·clear hS hvs hlow hk hn;change Sem.run _ (execOp (Act.eval (frm _ _ _ [])) _) _=_;simp only[frm];go_simp
   ·exact absurd (by decide) hn
  ·intro p hp o ho vs w1 hS hvs;rcases (show p=0 ∨ p=1 ∨ p=2 by change p < 3 at hp;omega) with rfl | rfl | rfl <;> cases ho
   ·replace hS:Bk w1 g 42 M∧Bk w1 g5 42 (Y0)∧Kp (fun k=>k=g5) w4 w1:=hS;have h1:vs 1=.agg #[iv x.tm,iv x.ts]:=hvs 1 (by decide) (by decide);have h6:vs 6=pq g5 24:=hvs 6 (by decide) (by decide)
    show Made _ (fun v w2=>Bk w2 g 42 M∧Bk w2 g5 42 (Z1)∧Kp (fun k=>k=g5) w4 w2) _
    change Made _ _ (Sem.run _ (execOp (Act.eval (Act.put (Act.put (frm _ _ _ []) (some 51) (vs 6)) (some 46) (vs 1))) _) _);have HS:=lh hS
    obtain⟨u0,hu0⟩:∃ u,w1.cell? ⟨g5,24,none⟩=some u:=⟨_,(hS.2.1.cell 24).trans (Array.getElem?_eq_getElem (by rw[S0.o.1];decide))⟩
    obtain⟨u1,hu1⟩:∃ u,w1.cell? ⟨g5,25,none⟩=some u:=⟨_,(hS.2.1.cell 25).trans (Array.getElem?_eq_getElem (by rw[S0.o.1];decide))⟩
    have e0:∀ j,w1.frozen? ⟨g5,j,none⟩=false:=fun j=>hS.2.1.free j;clear hS hvs;simp only[frm,h1,h6];go_simp;refine qa7 ⟨fz_keep8_7 HS.o.1 HNE.o _ _,?_,HS.o.2.2.trans (kz_keep8_7 _ _) (fun _ _ h=>h)⟩;rw[S0.o.2];exact bz_keep8_7 HS.o.2.1 _ _
   ·replace hS:Bk w1 g 42 M∧Bk w1 g5 42 (Z1)∧Kp (fun k=>k=g5) w4 w1:=hS;have h3:vs 3=uv x.number:=hvs 3 (by decide) (by decide);have h8:vs 8=pq g5 1:=hvs 8 (by decide) (by decide)
    show Made _ (fun v w2=>Bk w2 g 42 M∧Bk w2 g5 42 (Z2)∧Kp (fun k=>k=g5) w4 w2) _
    change Made _ _ (Sem.run _ (execOp (Act.eval (Act.put (Act.put (frm _ _ _ []) (some 52) (vs 8)) (some 48) (vs 3))) _) _);have HS:=lh hS
    obtain⟨u0,hu0⟩:∃ u,w1.cell? ⟨g5,1,none⟩=some u:=⟨_,(hS.2.1.cell 1).trans (Array.getElem?_eq_getElem (by rw[S1.o.1];decide))⟩
    have e0:∀ j,w1.frozen? ⟨g5,j,none⟩=false:=fun j=>hS.2.1.free j;clear hS hvs;simp only[frm,h3,h8];go_simp;refine qa7 ⟨fz_keep8_1 HS.o.1 HNE.o _,?_,HS.o.2.2.trans (kz_keep8_1 _) (fun _ _ h=>h)⟩;rw[S1.o.2];exact bz_keep8_1 HS.o.2.1 _
   ·replace hS:Bk w1 g 42 M∧Bk w1 g5 42 (Z2)∧Kp (fun k=>k=g5) w4 w1:=hS;have h5:vs 5=iv x.asker:=hvs 5 (by decide) (by decide);have h10:vs 10=pq g5 2:=hvs 10 (by decide) (by decide)
    show Made _ (fun v w2=>Bk w2 g 42 M∧Bk w2 g5 42 (Z3)∧Kp (fun k=>k=g5) w4 w2) _
    change Made _ _ (Sem.run _ (execOp (Act.eval (Act.put (Act.put (frm _ _ _ []) (some 53) (vs 10)) (some 50) (vs 5))) _) _);have HS:=lh hS
    obtain⟨u0,hu0⟩:∃ u,w1.cell? ⟨g5,2,none⟩=some u:=⟨_,(hS.2.1.cell 2).trans (Array.getElem?_eq_getElem (by rw[S2.o.1];decide))⟩
    have e0:∀ j,w1.frozen? ⟨g5,j,none⟩=false:=fun j=>hS.2.1.free j;clear hS hvs;simp only[frm,h5,h10];go_simp;refine qa7 ⟨fz_keep8_2 HS.o.1 HNE.o _,?_,HS.o.2.2.trans (kz_keep8_2 _) (fun _ _ h=>h)⟩;rw[S2.o.2];exact bz_keep8_2 HS.o.2.1 _
  ·intro vs w5 hS hvs;replace hS:Bk w5 g 42 M∧Bk w5 g5 42 (Z3)∧Kp (fun k=>k=g5) w4 w5:=hS;change wpList _ _ _ [] (Act.put (Act.put (Act.put (Act.put (Act.put (Act.put (Act.put (Act.put (Act.put (Act.put (Act.put (Act.put (frm _ _ _ []) none (vs 11)) (some 53) (vs 10)) none (vs 9)) (some 52) (vs 8)) none (vs 7)) (some 51) (vs 6)) (some 50) (vs 5)) (some 49) (vs 4)) (some 48) (vs 3)) (some 47) (vs 2)) (some 46) (vs 1)) (some 45) (vs 0)) _;simp only[frm];clear hvs;generalize vs 0=z0;generalize vs 1=z1;generalize vs 2=z2;generalize vs 3=z3;generalize vs 4=z4;generalize vs 5=z5;generalize vs 6=z6;generalize vs 7=z7;generalize vs 8=z8;generalize vs 9=z9;generalize vs 10=z10;generalize vs 11=z11;have HZ5:=lh hS.2.1;have HP5:=lh hS.2.2;clear hS;simp only[Act.put,List.setIfInBounds_toArray,List.set_cons_succ,List.set_cons_zero]
   go_upto_region 29 with fail
   have HR5:=lh (HR4.o.kp HP5.o HNR.o);refine wp_region_list ?_;refine wpList_load_mid rfl _ _ rfl g5 0 rfl (Z3).toList _ HZ5.o.rng rfl rfl (by rw[Array.length_toList,HSF.o];rfl) ?_;simp only[Array.toArray_toList,Act.put,List.setIfInBounds_toArray,List.set_cons_succ,List.set_cons_zero];refine wpList_store_row (P:=Tryz.prog) rfl 42 _ _ rfl gr (Z3) rfl rfl _ _ HR5.o (by rw[HSF.o];rfl) (by rw[HSF.o];rfl) HO.o ?_
   go_wp2_with fail
   try simp only[Exit.inBlock,Exit.then]
   refine bodyPost_ret (v:=.agg (Z3)) (qc5 (P:=Tryz.prog) rfl _ _ gr 42 (Z3) _ rfl (setRow_heap _ _ _ _ _ _ HR5.o) rfl rfl (by rw[HSF.o];rfl)) rfl ?_
   exact HEND.o _ _ _ _ HZ5.o HP5.o HR5.o rfl HRW.o fun V hb=>⟨none,0,none,0,none,0,none,0,none,0,none,0,none,0,none,0,rfl,LsR.tnil,LsR.tnil,LsR.tnil,LsR.tnil,LsR.tnil,LsR.tnil,LsR.tnil,LsR.tnil⟩
 ·subst hq
  obtain⟨Z1,hZ1⟩:∃ Y,Y=qd0 Y0 24 [iv x.tm,iv x.ts]:=⟨_,rfl⟩
  have S0:=lh (And.intro hs hZ1);replace hs:Z1.size=39:=by rw[hZ1,qb4,hs]
  clear hZ1
  obtain⟨Z2,hZ2⟩:∃ Y,Y=qd0 Z1 26 [iv x.answer.machine,iv x.answer.owner,uv x.answer.number,iv x.answer.epoch,.bool x.answer.known,.bool x.answer.rooted,iv x.answer.last,.slice A5 x.answer.inset.length c5]:=⟨_,rfl⟩
  have S1:=lh (And.intro hs hZ2);replace hs:Z2.size=39:=by rw[hZ2,qb4,hs]
  clear hZ2;have HRW:Hid (Z2=([iv x.kind,uv 0,iv 0,.string ⟨#[]⟩,iv 0,iv 0,iv 0,uv 0,iv 0,iv 0,iv 0,bf,iv 0,iv 0,.string ⟨#[]⟩,sn,uv 0,iv 0,iv 0,iv 0,iv 0,sn,sn,sn,iv x.tm,iv x.ts,iv x.answer.machine,iv x.answer.owner,uv x.answer.number,iv x.answer.epoch,.bool x.answer.known,.bool x.answer.rooted,iv x.answer.last,.slice A5 x.answer.inset.length c5,iv 0,iv 0,sn,sn,sn]:List Value).toArray):=lh (by rw[S1.o.2,S0.o.2,HY0.o,row9 (A1:=A1) (A2:=A2) (A3:=A3) (A4:=A4) (A5:=A5) (A6:=A6) (A7:=A7) (A8:=A8) (c1:=c1) (c2:=c2) (c3:=c3) (c4:=c4) (c5:=c5) (c6:=c6) (c7:=c7) (c8:=c8) x]);have HO:Hid (Z2.all (·.oneCell')=true):=lh (by rw[HRW.o];kernel_rfl);have HSF:=lh hs;clear hs HY0
  go_upto_region 19 with fail
  clear a0;refine qc9 8 (fun i=>([[],[0],[],[2],[],[1,4],[],[3,6]]:List (List Nat)).getD i []) [5,7] (fun i=>([0,0,1,1,0,0,1,0]:List Nat).getD i 0) (fun zz=>([pq g 24,.agg #[iv x.tm,iv x.ts],pq g 26,.agg #[iv x.answer.machine,iv x.answer.owner,uv x.answer.number,iv x.answer.epoch,.bool x.answer.known,.bool x.answer.rooted,iv x.answer.last,.slice A5 x.answer.inset.length c5],pq g5 24,bf,pq g5 26,bf]:List Value).getD zz (bf)) (KS g g5 M [Y0,Z1,Z2] w4) rfl (by kernel_rfl) (by rfl) (by kernel_rfl) ?_ ?_ ?_ ?_
  ·exact⟨HG0.o,HZ0.o,(Kp.refl _ w4).drew⟩
  ·intro zi hzi hn zo ho k vs w1 hk hlow hS hvs;rcases (show zi=0 ∨ zi=1 ∨ zi=2 ∨ zi=3 ∨ zi=4 ∨ zi=5 ∨ zi=6 ∨ zi=7 by omega) with rfl | rfl | rfl | rfl | rfl | rfl | rfl | rfl <;> cases ho
   ·clear hS hvs hlow hk hn;change Sem.run _ (execOp (Act.eval (frm _ _ _ [])) _) _=_;simp only[frm];go_simp
   ·have h0:vs 0=pq g 24:=hvs 0 (by decide) (by decide);replace hk:k≤0:=hk;have hbk:=hS.1;have fc0:cl w1 g 24 (iv x.tm):=(hbk.cell 24).trans (by rw[HM.o];rfl);have fc1:cl w1 g 25 (iv x.ts):=(hbk.cell 25).trans (by rw[HM.o];rfl);clear hbk;clear hS hvs hlow hk hn;change Sem.run _ (execOp (Act.eval (Act.put (frm _ _ _ []) (some 56) (vs 0))) _) _=_;simp only[frm,h0];go_simp
   ·clear hS hvs hlow hk hn;change Sem.run _ (execOp (Act.eval (frm _ _ _ [])) _) _=_;simp only[frm];go_simp
   ·have h2:vs 2=pq g 26:=hvs 2 (by decide) (by decide);replace hk:k≤1:=hk;have hbk:=hS.1;have fc0:cl w1 g 26 (iv x.answer.machine):=(hbk.cell 26).trans (by rw[HM.o];rfl);have fc1:cl w1 g 27 (iv x.answer.owner):=(hbk.cell 27).trans (by rw[HM.o];rfl);have fc2:cl w1 g 28 (uv x.answer.number):=(hbk.cell 28).trans (by rw[HM.o];rfl);have fc3:cl w1 g 29 (iv x.answer.epoch):=(hbk.cell 29).trans (by rw[HM.o];rfl);have fc4:cl w1 g 30 (.bool x.answer.known):=(hbk.cell 30).trans (by rw[HM.o];rfl);have fc5:cl w1 g 31 (.bool x.answer.rooted):=(hbk.cell 31).trans (by rw[HM.o];rfl);have fc6:cl w1 g 32 (iv x.answer.last):=(hbk.cell 32).trans (by rw[HM.o];rfl);have fc7:cl w1 g 33 (.slice A5 x.answer.inset.length c5):=(hbk.cell 33).trans (by rw[HM.o];rfl);clear hbk;clear hS hvs hlow hk hn;change Sem.run _ (execOp (Act.eval (Act.put (frm _ _ _ []) (some 58) (vs 2))) _) _=_;simp only[frm,h2];go_simp
   ·clear hS hvs hlow hk hn;change Sem.run _ (execOp (Act.eval (frm _ _ _ [])) _) _=_;simp only[frm];go_simp
   ·exact absurd (by decide) hn
   ·clear hS hvs hlow hk hn;change Sem.run _ (execOp (Act.eval (frm _ _ _ [])) _) _=_;simp only[frm];go_simp
   ·exact absurd (by decide) hn
  ·intro p hp o ho vs w1 hS hvs;rcases (show p=0 ∨ p=1 by change p < 2 at hp;omega) with rfl | rfl <;> cases ho
   ·replace hS:Bk w1 g 42 M∧Bk w1 g5 42 (Y0)∧Kp (fun k=>k=g5) w4 w1:=hS;have h1:vs 1=.agg #[iv x.tm,iv x.ts]:=hvs 1 (by decide) (by decide);have h4:vs 4=pq g5 24:=hvs 4 (by decide) (by decide)
    show Made _ (fun v w2=>Bk w2 g 42 M∧Bk w2 g5 42 (Z1)∧Kp (fun k=>k=g5) w4 w2) _
    change Made _ _ (Sem.run _ (execOp (Act.eval (Act.put (Act.put (frm _ _ _ []) (some 60) (vs 4)) (some 57) (vs 1))) _) _);have HS:=lh hS
    obtain⟨u0,hu0⟩:∃ u,w1.cell? ⟨g5,24,none⟩=some u:=⟨_,(hS.2.1.cell 24).trans (Array.getElem?_eq_getElem (by rw[S0.o.1];decide))⟩
    obtain⟨u1,hu1⟩:∃ u,w1.cell? ⟨g5,25,none⟩=some u:=⟨_,(hS.2.1.cell 25).trans (Array.getElem?_eq_getElem (by rw[S0.o.1];decide))⟩
    have e0:∀ j,w1.frozen? ⟨g5,j,none⟩=false:=fun j=>hS.2.1.free j;clear hS hvs;simp only[frm,h1,h4];go_simp;refine qa7 ⟨fz_keep9_7 HS.o.1 HNE.o _ _,?_,HS.o.2.2.trans (kz_keep9_7 _ _) (fun _ _ h=>h)⟩;rw[S0.o.2];exact bz_keep9_7 HS.o.2.1 _ _
   ·replace hS:Bk w1 g 42 M∧Bk w1 g5 42 (Z1)∧Kp (fun k=>k=g5) w4 w1:=hS;have h3:vs 3=.agg #[iv x.answer.machine,iv x.answer.owner,uv x.answer.number,iv x.answer.epoch,.bool x.answer.known,.bool x.answer.rooted,iv x.answer.last,.slice A5 x.answer.inset.length c5]:=hvs 3 (by decide) (by decide);have h6:vs 6=pq g5 26:=hvs 6 (by decide) (by decide)
    show Made _ (fun v w2=>Bk w2 g 42 M∧Bk w2 g5 42 (Z2)∧Kp (fun k=>k=g5) w4 w2) _
    change Made _ _ (Sem.run _ (execOp (Act.eval (Act.put (Act.put (frm _ _ _ []) (some 61) (vs 6)) (some 59) (vs 3))) _) _);have HS:=lh hS
    obtain⟨u0,hu0⟩:∃ u,w1.cell? ⟨g5,26,none⟩=some u:=⟨_,(hS.2.1.cell 26).trans (Array.getElem?_eq_getElem (by rw[S1.o.1];decide))⟩
    obtain⟨u1,hu1⟩:∃ u,w1.cell? ⟨g5,27,none⟩=some u:=⟨_,(hS.2.1.cell 27).trans (Array.getElem?_eq_getElem (by rw[S1.o.1];decide))⟩
    obtain⟨u2,hu2⟩:∃ u,w1.cell? ⟨g5,28,none⟩=some u:=⟨_,(hS.2.1.cell 28).trans (Array.getElem?_eq_getElem (by rw[S1.o.1];decide))⟩
    obtain⟨u3,hu3⟩:∃ u,w1.cell? ⟨g5,29,none⟩=some u:=⟨_,(hS.2.1.cell 29).trans (Array.getElem?_eq_getElem (by rw[S1.o.1];decide))⟩
    obtain⟨u4,hu4⟩:∃ u,w1.cell? ⟨g5,30,none⟩=some u:=⟨_,(hS.2.1.cell 30).trans (Array.getElem?_eq_getElem (by rw[S1.o.1];decide))⟩
    obtain⟨u5,hu5⟩:∃ u,w1.cell? ⟨g5,31,none⟩=some u:=⟨_,(hS.2.1.cell 31).trans (Array.getElem?_eq_getElem (by rw[S1.o.1];decide))⟩
    obtain⟨u6,hu6⟩:∃ u,w1.cell? ⟨g5,32,none⟩=some u:=⟨_,(hS.2.1.cell 32).trans (Array.getElem?_eq_getElem (by rw[S1.o.1];decide))⟩
    obtain⟨u7,hu7⟩:∃ u,w1.cell? ⟨g5,33,none⟩=some u:=⟨_,(hS.2.1.cell 33).trans (Array.getElem?_eq_getElem (by rw[S1.o.1];decide))⟩
    have e0:∀ j,w1.frozen? ⟨g5,j,none⟩=false:=fun j=>hS.2.1.free j;clear hS hvs;simp only[frm,h3,h6];go_simp;refine qa7 ⟨fz_keep9_8 HS.o.1 HNE.o _ _ _ _ _ _ _ _,?_,HS.o.2.2.trans (kz_keep9_8 _ _ _ _ _ _ _ _) (fun _ _ h=>h)⟩;rw[S1.o.2];exact bz_keep9_8 HS.o.2.1 _ _ _ _ _ _ _ _
  ·intro vs w5 hS hvs;replace hS:Bk w5 g 42 M∧Bk w5 g5 42 (Z2)∧Kp (fun k=>k=g5) w4 w5:=hS;change wpList _ _ _ [] (Act.put (Act.put (Act.put (Act.put (Act.put (Act.put (Act.put (Act.put (frm _ _ _ []) none (vs 7)) (some 61) (vs 6)) none (vs 5)) (some 60) (vs 4)) (some 59) (vs 3)) (some 58) (vs 2)) (some 57) (vs 1)) (some 56) (vs 0)) _;simp only[frm];clear hvs;generalize vs 0=z0;generalize vs 1=z1;generalize vs 2=z2;generalize vs 3=z3;generalize vs 4=z4;generalize vs 5=z5;generalize vs 6=z6;generalize vs 7=z7;have HZ5:=lh hS.2.1;have HP5:=lh hS.2.2;clear hS;simp only[Act.put,List.setIfInBounds_toArray,List.set_cons_succ,List.set_cons_zero]
   go_upto_region 29 with fail
   have HR5:=lh (HR4.o.kp HP5.o HNR.o);refine wp_region_list ?_;refine wpList_load_mid rfl _ _ rfl g5 0 rfl (Z2).toList _ HZ5.o.rng rfl rfl (by rw[Array.length_toList,HSF.o];rfl) ?_;simp only[Array.toArray_toList,Act.put,List.setIfInBounds_toArray,List.set_cons_succ,List.set_cons_zero];refine wpList_store_row (P:=Tryz.prog) rfl 42 _ _ rfl gr (Z2) rfl rfl _ _ HR5.o (by rw[HSF.o];rfl) (by rw[HSF.o];rfl) HO.o ?_
   go_wp2_with fail
   try simp only[Exit.inBlock,Exit.then]
   refine bodyPost_ret (v:=.agg (Z2)) (qc5 (P:=Tryz.prog) rfl _ _ gr 42 (Z2) _ rfl (setRow_heap _ _ _ _ _ _ HR5.o) rfl rfl (by rw[HSF.o];rfl)) rfl ?_
   exact HEND.o _ _ _ _ HZ5.o HP5.o HR5.o rfl HRW.o fun V hb=>⟨none,0,none,0,none,0,none,0,A5,c5,none,0,none,0,none,0,rfl,LsR.tnil,LsR.tnil,LsR.tnil,LsR.tnil,LsI.below (show LsI _ _ _ _ _ _ _ from HL.o.2.2.2.2.1) (qa1 inC) (qa0 inC) hb,LsR.tnil,LsR.tnil,LsR.tnil⟩
 ·subst hq
  obtain⟨Z1,hZ1⟩:∃ Y,Y=qd0 Y0 24 [iv x.tm,iv x.ts]:=⟨_,rfl⟩
  have S0:=lh (And.intro hs hZ1);replace hs:Z1.size=39:=by rw[hZ1,qb4,hs]
  clear hZ1
  obtain⟨Z2,hZ2⟩:∃ Y,Y=qd0 Z1 34 [iv x.claim.machine,iv x.claim.epoch,.slice A6 x.claim.stubs.length c6,.slice A7 x.claim.scions.length c7,.slice A8 x.claim.checks.length c8]:=⟨_,rfl⟩
  have S1:=lh (And.intro hs hZ2);replace hs:Z2.size=39:=by rw[hZ2,qb4,hs]
  clear hZ2;have HRW:Hid (Z2=([iv x.kind,uv 0,iv 0,.string ⟨#[]⟩,iv 0,iv 0,iv 0,uv 0,iv 0,iv 0,iv 0,bf,iv 0,iv 0,.string ⟨#[]⟩,sn,uv 0,iv 0,iv 0,iv 0,iv 0,sn,sn,sn,iv x.tm,iv x.ts,iv 0,iv 0,uv 0,iv 0,bf,bf,iv 0,sn,iv x.claim.machine,iv x.claim.epoch,.slice A6 x.claim.stubs.length c6,.slice A7 x.claim.scions.length c7,.slice A8 x.claim.checks.length c8]:List Value).toArray):=lh (by rw[S1.o.2,S0.o.2,HY0.o,row10 (A1:=A1) (A2:=A2) (A3:=A3) (A4:=A4) (A5:=A5) (A6:=A6) (A7:=A7) (A8:=A8) (c1:=c1) (c2:=c2) (c3:=c3) (c4:=c4) (c5:=c5) (c6:=c6) (c7:=c7) (c8:=c8) x]);have HO:Hid (Z2.all (·.oneCell')=true):=lh (by rw[HRW.o];kernel_rfl);have HSF:=lh hs;clear hs HY0
  go_upto_region 21 with fail
  clear a0;refine qc9 8 (fun i=>([[],[0],[],[2],[],[1,4],[],[3,6]]:List (List Nat)).getD i []) [5,7] (fun i=>([0,0,1,1,0,0,1,0]:List Nat).getD i 0) (fun zz=>([pq g 24,.agg #[iv x.tm,iv x.ts],pq g 34,.agg #[iv x.claim.machine,iv x.claim.epoch,.slice A6 x.claim.stubs.length c6,.slice A7 x.claim.scions.length c7,.slice A8 x.claim.checks.length c8],pq g5 24,bf,pq g5 34,bf]:List Value).getD zz (bf)) (KS g g5 M [Y0,Z1,Z2] w4) rfl (by kernel_rfl) (by rfl) (by kernel_rfl) ?_ ?_ ?_ ?_
  ·exact⟨HG0.o,HZ0.o,(Kp.refl _ w4).drew⟩
  ·intro zi hzi hn zo ho k vs w1 hk hlow hS hvs;rcases (show zi=0 ∨ zi=1 ∨ zi=2 ∨ zi=3 ∨ zi=4 ∨ zi=5 ∨ zi=6 ∨ zi=7 by omega) with rfl | rfl | rfl | rfl | rfl | rfl | rfl | rfl <;> cases ho
   ·clear hS hvs hlow hk hn;change Sem.run _ (execOp (Act.eval (frm _ _ _ [])) _) _=_;simp only[frm];go_simp
   ·have h0:vs 0=pq g 24:=hvs 0 (by decide) (by decide);replace hk:k≤0:=hk;have hbk:=hS.1;have fc0:cl w1 g 24 (iv x.tm):=(hbk.cell 24).trans (by rw[HM.o];rfl);have fc1:cl w1 g 25 (iv x.ts):=(hbk.cell 25).trans (by rw[HM.o];rfl);clear hbk;clear hS hvs hlow hk hn;change Sem.run _ (execOp (Act.eval (Act.put (frm _ _ _ []) (some 64) (vs 0))) _) _=_;simp only[frm,h0];go_simp
   ·clear hS hvs hlow hk hn;change Sem.run _ (execOp (Act.eval (frm _ _ _ [])) _) _=_;simp only[frm];go_simp
   ·have h2:vs 2=pq g 34:=hvs 2 (by decide) (by decide);replace hk:k≤1:=hk;have hbk:=hS.1;have fc0:cl w1 g 34 (iv x.claim.machine):=(hbk.cell 34).trans (by rw[HM.o];rfl);have fc1:cl w1 g 35 (iv x.claim.epoch):=(hbk.cell 35).trans (by rw[HM.o];rfl);have fc2:cl w1 g 36 (.slice A6 x.claim.stubs.length c6):=(hbk.cell 36).trans (by rw[HM.o];rfl);have fc3:cl w1 g 37 (.slice A7 x.claim.scions.length c7):=(hbk.cell 37).trans (by rw[HM.o];rfl);have fc4:cl w1 g 38 (.slice A8 x.claim.checks.length c8):=(hbk.cell 38).trans (by rw[HM.o];rfl);clear hbk;clear hS hvs hlow hk hn;change Sem.run _ (execOp (Act.eval (Act.put (frm _ _ _ []) (some 66) (vs 2))) _) _=_;simp only[frm,h2];go_simp
   ·clear hS hvs hlow hk hn;change Sem.run _ (execOp (Act.eval (frm _ _ _ [])) _) _=_;simp only[frm];go_simp
   ·exact absurd (by decide) hn
   ·clear hS hvs hlow hk hn;change Sem.run _ (execOp (Act.eval (frm _ _ _ [])) _) _=_;simp only[frm];go_simp
   ·exact absurd (by decide) hn
  ·intro p hp o ho vs w1 hS hvs;rcases (show p=0 ∨ p=1 by change p < 2 at hp;omega) with rfl | rfl <;> cases ho
   ·replace hS:Bk w1 g 42 M∧Bk w1 g5 42 (Y0)∧Kp (fun k=>k=g5) w4 w1:=hS;have h1:vs 1=.agg #[iv x.tm,iv x.ts]:=hvs 1 (by decide) (by decide);have h4:vs 4=pq g5 24:=hvs 4 (by decide) (by decide)
    show Made _ (fun v w2=>Bk w2 g 42 M∧Bk w2 g5 42 (Z1)∧Kp (fun k=>k=g5) w4 w2) _
    change Made _ _ (Sem.run _ (execOp (Act.eval (Act.put (Act.put (frm _ _ _ []) (some 68) (vs 4)) (some 65) (vs 1))) _) _);have HS:=lh hS
    obtain⟨u0,hu0⟩:∃ u,w1.cell? ⟨g5,24,none⟩=some u:=⟨_,(hS.2.1.cell 24).trans (Array.getElem?_eq_getElem (by rw[S0.o.1];decide))⟩
    obtain⟨u1,hu1⟩:∃ u,w1.cell? ⟨g5,25,none⟩=some u:=⟨_,(hS.2.1.cell 25).trans (Array.getElem?_eq_getElem (by rw[S0.o.1];decide))⟩
    have e0:∀ j,w1.frozen? ⟨g5,j,none⟩=false:=fun j=>hS.2.1.free j;clear hS hvs;simp only[frm,h1,h4];go_simp;refine qa7 ⟨qt2 HS.o.1 HNE.o _ _,?_,HS.o.2.2.trans (qs7 _ _) (fun _ _ h=>h)⟩;rw[S0.o.2];exact qv1 HS.o.2.1 _ _
   ·replace hS:Bk w1 g 42 M∧Bk w1 g5 42 (Z1)∧Kp (fun k=>k=g5) w4 w1:=hS;have h3:vs 3=.agg #[iv x.claim.machine,iv x.claim.epoch,.slice A6 x.claim.stubs.length c6,.slice A7 x.claim.scions.length c7,.slice A8 x.claim.checks.length c8]:=hvs 3 (by decide) (by decide);have h6:vs 6=pq g5 34:=hvs 6 (by decide) (by decide)
    show Made _ (fun v w2=>Bk w2 g 42 M∧Bk w2 g5 42 (Z2)∧Kp (fun k=>k=g5) w4 w2) _
    change Made _ _ (Sem.run _ (execOp (Act.eval (Act.put (Act.put (frm _ _ _ []) (some 69) (vs 6)) (some 67) (vs 3))) _) _);have HS:=lh hS
    obtain⟨u0,hu0⟩:∃ u,w1.cell? ⟨g5,34,none⟩=some u:=⟨_,(hS.2.1.cell 34).trans (Array.getElem?_eq_getElem (by rw[S1.o.1];decide))⟩
    obtain⟨u1,hu1⟩:∃ u,w1.cell? ⟨g5,35,none⟩=some u:=⟨_,(hS.2.1.cell 35).trans (Array.getElem?_eq_getElem (by rw[S1.o.1];decide))⟩
    obtain⟨u2,hu2⟩:∃ u,w1.cell? ⟨g5,36,none⟩=some u:=⟨_,(hS.2.1.cell 36).trans (Array.getElem?_eq_getElem (by rw[S1.o.1];decide))⟩
    obtain⟨u3,hu3⟩:∃ u,w1.cell? ⟨g5,37,none⟩=some u:=⟨_,(hS.2.1.cell 37).trans (Array.getElem?_eq_getElem (by rw[S1.o.1];decide))⟩
    obtain⟨u4,hu4⟩:∃ u,w1.cell? ⟨g5,38,none⟩=some u:=⟨_,(hS.2.1.cell 38).trans (Array.getElem?_eq_getElem (by rw[S1.o.1];decide))⟩
    have e0:∀ j,w1.frozen? ⟨g5,j,none⟩=false:=fun j=>hS.2.1.free j;clear hS hvs;simp only[frm,h3,h6];go_simp;refine qa7 ⟨qt1 HS.o.1 HNE.o _ _ _ _ _,?_,HS.o.2.2.trans (qs6 _ _ _ _ _) (fun _ _ h=>h)⟩;rw[S1.o.2];exact qv0 HS.o.2.1 _ _ _ _ _
  ·intro vs w5 hS hvs;replace hS:Bk w5 g 42 M∧Bk w5 g5 42 (Z2)∧Kp (fun k=>k=g5) w4 w5:=hS;change wpList _ _ _ [] (Act.put (Act.put (Act.put (Act.put (Act.put (Act.put (Act.put (Act.put (frm _ _ _ []) none (vs 7)) (some 69) (vs 6)) none (vs 5)) (some 68) (vs 4)) (some 67) (vs 3)) (some 66) (vs 2)) (some 65) (vs 1)) (some 64) (vs 0)) _;simp only[frm];clear hvs;generalize vs 0=z0;generalize vs 1=z1;generalize vs 2=z2;generalize vs 3=z3;generalize vs 4=z4;generalize vs 5=z5;generalize vs 6=z6;generalize vs 7=z7;have HZ5:=lh hS.2.1;have HP5:=lh hS.2.2;clear hS;simp only[Act.put,List.setIfInBounds_toArray,List.set_cons_succ,List.set_cons_zero]
   go_upto_region 29 with fail
   have HR5:=lh (HR4.o.kp HP5.o HNR.o);refine wp_region_list ?_;refine wpList_load_mid rfl _ _ rfl g5 0 rfl (Z2).toList _ HZ5.o.rng rfl rfl (by rw[Array.length_toList,HSF.o];rfl) ?_;simp only[Array.toArray_toList,Act.put,List.setIfInBounds_toArray,List.set_cons_succ,List.set_cons_zero];refine wpList_store_row (P:=Tryz.prog) rfl 42 _ _ rfl gr (Z2) rfl rfl _ _ HR5.o (by rw[HSF.o];rfl) (by rw[HSF.o];rfl) HO.o ?_
   go_wp2_with fail
   try simp only[Exit.inBlock,Exit.then]
   refine bodyPost_ret (v:=.agg (Z2)) (qc5 (P:=Tryz.prog) rfl _ _ gr 42 (Z2) _ rfl (setRow_heap _ _ _ _ _ _ HR5.o) rfl rfl (by rw[HSF.o];rfl)) rfl ?_
   exact HEND.o _ _ _ _ HZ5.o HP5.o HR5.o rfl HRW.o fun V hb=>⟨none,0,none,0,none,0,none,0,none,0,A6,c6,A7,c7,A8,c8,rfl,LsR.tnil,LsR.tnil,LsR.tnil,LsR.tnil,LsR.tnil,LsI.below (show LsI _ _ _ _ _ _ _ from HL.o.2.2.2.2.2.1) (qa1 ndC) (qa0 ndC) hb,LsI.below (show LsI _ _ _ _ _ _ _ from HL.o.2.2.2.2.2.2.1) (qa1 ndC) (qa0 ndC) hb,LsI.below (show LsI _ _ _ _ _ _ _ from HL.o.2.2.2.2.2.2.2) (qa1 ndC) (qa0 ndC) hb⟩
 ·rcases hq with rfl | rfl | rfl | rfl
  all_goals
   obtain⟨Z1,hZ1⟩:∃ Y,Y=qd0 Y0 24 [iv x.tm,iv x.ts]:=⟨_,rfl⟩
   have S0:=lh (And.intro hs hZ1);replace hs:Z1.size=39:=by rw[hZ1,qb4,hs]
   clear hZ1;have HRW:Hid (Z1=([iv x.kind,uv 0,iv 0,.string ⟨#[]⟩,iv 0,iv 0,iv 0,uv 0,iv 0,iv 0,iv 0,bf,iv 0,iv 0,.string ⟨#[]⟩,sn,uv 0,iv 0,iv 0,iv 0,iv 0,sn,sn,sn,iv x.tm,iv x.ts,iv 0,iv 0,uv 0,iv 0,bf,bf,iv 0,sn,iv 0,iv 0,sn,sn,sn]:List Value).toArray):=lh (by rw[S0.o.2,HY0.o,row11 (A1:=A1) (A2:=A2) (A3:=A3) (A4:=A4) (A5:=A5) (A6:=A6) (A7:=A7) (A8:=A8) (c1:=c1) (c2:=c2) (c3:=c3) (c4:=c4) (c5:=c5) (c6:=c6) (c7:=c7) (c8:=c8) x]);have HO:Hid (Z1.all (·.oneCell')=true):=lh (by rw[HRW.o];kernel_rfl);have HSF:=lh hs;clear hs HY0
   go_upto_region 26 with fail
   have b24:cl w4 g 24 (iv x.tm):=(HG0.o.cell 24).trans (by rw[HM.o];rfl)
   obtain⟨u24,hu24⟩:∃ u,w4.cell? ⟨g5,24,none⟩=some u:=⟨_,(HZ0.o.cell 24).trans (Array.getElem?_eq_getElem (by rw[S0.o.1];decide))⟩
   have b25:cl w4 g 25 (iv x.ts):=(HG0.o.cell 25).trans (by rw[HM.o];rfl)
   obtain⟨u25,hu25⟩:∃ u,w4.cell? ⟨g5,25,none⟩=some u:=⟨_,(HZ0.o.cell 25).trans (Array.getElem?_eq_getElem (by rw[S0.o.1];decide))⟩
   have e0:∀ j,w4.frozen? ⟨g5,j,none⟩=false:=fun j=>HZ0.o.free j
   obtain⟨w5,hw5⟩:∃ w5,w5=((w4).setCell ⟨g5,24,none⟩ (iv x.tm)).setCell ⟨g5,25,none⟩ (iv x.ts):=⟨_,rfl⟩
   have hZ5:Bk w5 g5 42 Z1:=by rw[hw5,S0.o.2];exact bz_keep11 HZ0.o (iv x.tm) (iv x.ts)
   have hK5:Kp (fun k=>k=g5) w4 w5:=by rw[hw5];exact kz_keep11 (iv x.tm) (iv x.ts)
   go_upto_region 29 with fail
   rw[← hw5];clear hw5 e0 a0 b24 hu24 b25 hu25;have HZ5:=lh hZ5;have HP5:=lh hK5;clear hZ5 hK5;have HR5:=lh (HR4.o.kp HP5.o HNR.o);refine wp_region_list ?_;refine wpList_load_mid rfl _ _ rfl g5 0 rfl (Z1).toList _ HZ5.o.rng rfl rfl (by rw[Array.length_toList,HSF.o];rfl) ?_;simp only[Array.toArray_toList,Act.put,List.setIfInBounds_toArray,List.set_cons_succ,List.set_cons_zero];refine wpList_store_row (P:=Tryz.prog) rfl 42 _ _ rfl gr (Z1) rfl rfl _ _ HR5.o (by rw[HSF.o];rfl) (by rw[HSF.o];rfl) HO.o ?_
   go_wp2_with fail
   try simp only[Exit.inBlock,Exit.then]
   refine bodyPost_ret (v:=.agg (Z1)) (qc5 (P:=Tryz.prog) rfl _ _ gr 42 (Z1) _ rfl (setRow_heap _ _ _ _ _ _ HR5.o) rfl rfl (by rw[HSF.o];rfl)) rfl ?_
   exact HEND.o _ _ _ _ HZ5.o HP5.o HR5.o rfl HRW.o fun V hb=>⟨none,0,none,0,none,0,none,0,none,0,none,0,none,0,none,0,rfl,LsR.tnil,LsR.tnil,LsR.tnil,LsR.tnil,LsR.tnil,LsR.tnil,LsR.tnil,LsR.tnil⟩
 ·rcases hq with rfl | rfl
  all_goals
   have HRW:Hid (Y0=([iv x.kind,uv 0,iv 0,.string ⟨#[]⟩,iv 0,iv 0,iv 0,uv 0,iv 0,iv 0,iv 0,bf,iv 0,iv 0,.string ⟨#[]⟩,sn,uv 0,iv 0,iv 0,iv 0,iv 0,sn,sn,sn,iv 0,iv 0,iv 0,iv 0,uv 0,iv 0,bf,bf,iv 0,sn,iv 0,iv 0,sn,sn,sn]:List Value).toArray):=lh (by rw[HY0.o];rfl);have HO:Hid (Y0.all (·.oneCell')=true):=lh (by rw[HRW.o];kernel_rfl);have HSF:=lh hs;clear hs HY0
   obtain⟨w5,hw5⟩:∃ w5,w5=w4:=⟨_,rfl⟩
   have HZ5:=HZ0;rw[← hw5] at HZ5
   go_upto_region 29 with fail
   have HP5:Hid (Kp (fun k=>k=g5) w4 w5):=lh (by rw[hw5];exact Kp.refl _ _);have HR4:Hid (Bk w4 gr 42 msZ):=HR4;rw[← hw5];clear hw5 a0;have HR5:=lh (HR4.o.kp HP5.o HNR.o);refine wp_region_list ?_;refine wpList_load_mid rfl _ _ rfl g5 0 rfl (Y0).toList _ HZ5.o.rng rfl rfl (by rw[Array.length_toList,HSF.o];rfl) ?_;simp only[Array.toArray_toList,Act.put,List.setIfInBounds_toArray,List.set_cons_succ,List.set_cons_zero];refine wpList_store_row (P:=Tryz.prog) rfl 42 _ _ rfl gr (Y0) rfl rfl _ _ HR5.o (by rw[HSF.o];rfl) (by rw[HSF.o];rfl) HO.o ?_
   go_wp2_with fail
   try simp only[Exit.inBlock,Exit.then]
   refine bodyPost_ret (v:=.agg (Y0)) (qc5 (P:=Tryz.prog) rfl _ _ gr 42 (Y0) _ rfl (setRow_heap _ _ _ _ _ _ HR5.o) rfl rfl (by rw[HSF.o];rfl)) rfl ?_
   exact HEND.o _ _ _ _ HZ5.o HP5.o HR5.o rfl HRW.o fun V hb=>⟨none,0,none,0,none,0,none,0,none,0,none,0,none,0,none,0,rfl,LsR.tnil,LsR.tnil,LsR.tnil,LsR.tnil,LsR.tnil,LsR.tnil,LsR.tnil,LsR.tnil⟩
 ·subst hq
  obtain⟨Z1,hZ1⟩:∃ Y,Y=qd0 Y0 3 [.string x.name]:=⟨_,rfl⟩
  have S0:=lh (And.intro hs hZ1);replace hs:Z1.size=39:=by rw[hZ1,qb4,hs]
  clear hZ1
  obtain⟨Z2,hZ2⟩:∃ Y,Y=qd0 Z1 4 [iv x.ref.kind,iv x.ref.int,iv x.ref.owner,uv x.ref.number,iv x.ref.idm,iv x.ref.ids,iv x.ref.cls,.bool x.ref.weak]:=⟨_,rfl⟩
  have S1:=lh (And.intro hs hZ2);replace hs:Z2.size=39:=by rw[hZ2,qb4,hs]
  clear hZ2;have HRW:Hid (Z2=([iv x.kind,uv 0,iv 0,.string x.name,iv x.ref.kind,iv x.ref.int,iv x.ref.owner,uv x.ref.number,iv x.ref.idm,iv x.ref.ids,iv x.ref.cls,.bool x.ref.weak,iv 0,iv 0,.string ⟨#[]⟩,sn,uv 0,iv 0,iv 0,iv 0,iv 0,sn,sn,sn,iv 0,iv 0,iv 0,iv 0,uv 0,iv 0,bf,bf,iv 0,sn,iv 0,iv 0,sn,sn,sn]:List Value).toArray):=lh (by rw[S1.o.2,S0.o.2,HY0.o,row17 (A1:=A1) (A2:=A2) (A3:=A3) (A4:=A4) (A5:=A5) (A6:=A6) (A7:=A7) (A8:=A8) (c1:=c1) (c2:=c2) (c3:=c3) (c4:=c4) (c5:=c5) (c6:=c6) (c7:=c7) (c8:=c8) x]);have HO:Hid (Z2.all (·.oneCell')=true):=lh (by rw[HRW.o];kernel_rfl);have HSF:=lh hs;clear hs HY0
  go_upto_region 28 with fail
  clear a0;refine qc9 8 (fun i=>([[],[0],[],[2],[],[1,4],[],[3,6]]:List (List Nat)).getD i []) [5,7] (fun i=>([0,0,1,1,0,0,1,0]:List Nat).getD i 0) (fun zz=>([pq g 3,.string x.name,pq g 4,.agg #[iv x.ref.kind,iv x.ref.int,iv x.ref.owner,uv x.ref.number,iv x.ref.idm,iv x.ref.ids,iv x.ref.cls,.bool x.ref.weak],pq g5 3,bf,pq g5 4,bf]:List Value).getD zz (bf)) (KS g g5 M [Y0,Z1,Z2] w4) rfl (by kernel_rfl) (by rfl) (by kernel_rfl) ?_ ?_ ?_ ?_
  ·exact⟨HG0.o,HZ0.o,(Kp.refl _ w4).drew⟩
  ·intro zi hzi hn zo ho k vs w1 hk hlow hS hvs;rcases (show zi=0 ∨ zi=1 ∨ zi=2 ∨ zi=3 ∨ zi=4 ∨ zi=5 ∨ zi=6 ∨ zi=7 by omega) with rfl | rfl | rfl | rfl | rfl | rfl | rfl | rfl <;> cases ho
   ·clear hS hvs hlow hk hn;change Sem.run _ (execOp (Act.eval (frm _ _ _ [])) _) _=_;simp only[frm];go_simp
   ·have h0:vs 0=pq g 3:=hvs 0 (by decide) (by decide);replace hk:k≤0:=hk;have hbk:=hS.1;have fc0:cl w1 g 3 (.string x.name):=(hbk.cell 3).trans (by rw[HM.o];rfl);clear hbk;clear hS hvs hlow hk hn;change Sem.run _ (execOp (Act.eval (Act.put (frm _ _ _ []) (some 80) (vs 0))) _) _=_;simp only[frm,h0];go_simp
   ·clear hS hvs hlow hk hn;change Sem.run _ (execOp (Act.eval (frm _ _ _ [])) _) _=_;simp only[frm];go_simp
   ·have h2:vs 2=pq g 4:=hvs 2 (by decide) (by decide);replace hk:k≤1:=hk;have hbk:=hS.1;have fc0:cl w1 g 4 (iv x.ref.kind):=(hbk.cell 4).trans (by rw[HM.o];rfl);have fc1:cl w1 g 5 (iv x.ref.int):=(hbk.cell 5).trans (by rw[HM.o];rfl);have fc2:cl w1 g 6 (iv x.ref.owner):=(hbk.cell 6).trans (by rw[HM.o];rfl);have fc3:cl w1 g 7 (uv x.ref.number):=(hbk.cell 7).trans (by rw[HM.o];rfl);have fc4:cl w1 g 8 (iv x.ref.idm):=(hbk.cell 8).trans (by rw[HM.o];rfl);have fc5:cl w1 g 9 (iv x.ref.ids):=(hbk.cell 9).trans (by rw[HM.o];rfl);have fc6:cl w1 g 10 (iv x.ref.cls):=(hbk.cell 10).trans (by rw[HM.o];rfl);have fc7:cl w1 g 11 (.bool x.ref.weak):=(hbk.cell 11).trans (by rw[HM.o];rfl);clear hbk;clear hS hvs hlow hk hn;change Sem.run _ (execOp (Act.eval (Act.put (frm _ _ _ []) (some 82) (vs 2))) _) _=_;simp only[frm,h2];go_simp
   ·clear hS hvs hlow hk hn;change Sem.run _ (execOp (Act.eval (frm _ _ _ [])) _) _=_;simp only[frm];go_simp
   ·exact absurd (by decide) hn
   ·clear hS hvs hlow hk hn;change Sem.run _ (execOp (Act.eval (frm _ _ _ [])) _) _=_;simp only[frm];go_simp
   ·exact absurd (by decide) hn
  ·intro p hp o ho vs w1 hS hvs;rcases (show p=0 ∨ p=1 by change p < 2 at hp;omega) with rfl | rfl <;> cases ho
   ·replace hS:Bk w1 g 42 M∧Bk w1 g5 42 (Y0)∧Kp (fun k=>k=g5) w4 w1:=hS;have h1:vs 1=.string x.name:=hvs 1 (by decide) (by decide);have h4:vs 4=pq g5 3:=hvs 4 (by decide) (by decide)
    show Made _ (fun v w2=>Bk w2 g 42 M∧Bk w2 g5 42 (Z1)∧Kp (fun k=>k=g5) w4 w2) _
    change Made _ _ (Sem.run _ (execOp (Act.eval (Act.put (Act.put (frm _ _ _ []) (some 84) (vs 4)) (some 81) (vs 1))) _) _);have HS:=lh hS
    obtain⟨u0,hu0⟩:∃ u,w1.cell? ⟨g5,3,none⟩=some u:=⟨_,(hS.2.1.cell 3).trans (Array.getElem?_eq_getElem (by rw[S0.o.1];decide))⟩
    have e0:∀ j,w1.frozen? ⟨g5,j,none⟩=false:=fun j=>hS.2.1.free j;clear hS hvs;simp only[frm,h1,h4];go_simp;refine qa7 ⟨qt0 HS.o.1 HNE.o _,?_,HS.o.2.2.trans (qs5 _) (fun _ _ h=>h)⟩;rw[S0.o.2];exact qu9 HS.o.2.1 _
   ·replace hS:Bk w1 g 42 M∧Bk w1 g5 42 (Z1)∧Kp (fun k=>k=g5) w4 w1:=hS;have h3:vs 3=.agg #[iv x.ref.kind,iv x.ref.int,iv x.ref.owner,uv x.ref.number,iv x.ref.idm,iv x.ref.ids,iv x.ref.cls,.bool x.ref.weak]:=hvs 3 (by decide) (by decide);have h6:vs 6=pq g5 4:=hvs 6 (by decide) (by decide)
    show Made _ (fun v w2=>Bk w2 g 42 M∧Bk w2 g5 42 (Z2)∧Kp (fun k=>k=g5) w4 w2) _
    change Made _ _ (Sem.run _ (execOp (Act.eval (Act.put (Act.put (frm _ _ _ []) (some 85) (vs 6)) (some 83) (vs 3))) _) _);have HS:=lh hS
    obtain⟨u0,hu0⟩:∃ u,w1.cell? ⟨g5,4,none⟩=some u:=⟨_,(hS.2.1.cell 4).trans (Array.getElem?_eq_getElem (by rw[S1.o.1];decide))⟩
    obtain⟨u1,hu1⟩:∃ u,w1.cell? ⟨g5,5,none⟩=some u:=⟨_,(hS.2.1.cell 5).trans (Array.getElem?_eq_getElem (by rw[S1.o.1];decide))⟩
    obtain⟨u2,hu2⟩:∃ u,w1.cell? ⟨g5,6,none⟩=some u:=⟨_,(hS.2.1.cell 6).trans (Array.getElem?_eq_getElem (by rw[S1.o.1];decide))⟩
    obtain⟨u3,hu3⟩:∃ u,w1.cell? ⟨g5,7,none⟩=some u:=⟨_,(hS.2.1.cell 7).trans (Array.getElem?_eq_getElem (by rw[S1.o.1];decide))⟩
    obtain⟨u4,hu4⟩:∃ u,w1.cell? ⟨g5,8,none⟩=some u:=⟨_,(hS.2.1.cell 8).trans (Array.getElem?_eq_getElem (by rw[S1.o.1];decide))⟩
    obtain⟨u5,hu5⟩:∃ u,w1.cell? ⟨g5,9,none⟩=some u:=⟨_,(hS.2.1.cell 9).trans (Array.getElem?_eq_getElem (by rw[S1.o.1];decide))⟩
    obtain⟨u6,hu6⟩:∃ u,w1.cell? ⟨g5,10,none⟩=some u:=⟨_,(hS.2.1.cell 10).trans (Array.getElem?_eq_getElem (by rw[S1.o.1];decide))⟩
    obtain⟨u7,hu7⟩:∃ u,w1.cell? ⟨g5,11,none⟩=some u:=⟨_,(hS.2.1.cell 11).trans (Array.getElem?_eq_getElem (by rw[S1.o.1];decide))⟩
    have e0:∀ j,w1.frozen? ⟨g5,j,none⟩=false:=fun j=>hS.2.1.free j;clear hS hvs;simp only[frm,h3,h6];go_simp;refine qa7 ⟨qs9 HS.o.1 HNE.o _ _ _ _ _ _ _ _,?_,HS.o.2.2.trans (qs4 _ _ _ _ _ _ _ _) (fun _ _ h=>h)⟩;rw[S1.o.2];exact qu8 HS.o.2.1 _ _ _ _ _ _ _ _
  ·intro vs w5 hS hvs;replace hS:Bk w5 g 42 M∧Bk w5 g5 42 (Z2)∧Kp (fun k=>k=g5) w4 w5:=hS;change wpList _ _ _ [] (Act.put (Act.put (Act.put (Act.put (Act.put (Act.put (Act.put (Act.put (frm _ _ _ []) none (vs 7)) (some 85) (vs 6)) none (vs 5)) (some 84) (vs 4)) (some 83) (vs 3)) (some 82) (vs 2)) (some 81) (vs 1)) (some 80) (vs 0)) _;simp only[frm];clear hvs;generalize vs 0=z0;generalize vs 1=z1;generalize vs 2=z2;generalize vs 3=z3;generalize vs 4=z4;generalize vs 5=z5;generalize vs 6=z6;generalize vs 7=z7;have HZ5:=lh hS.2.1;have HP5:=lh hS.2.2;clear hS;simp only[Act.put,List.setIfInBounds_toArray,List.set_cons_succ,List.set_cons_zero]
   go_upto_region 29 with fail
   have HR5:=lh (HR4.o.kp HP5.o HNR.o);refine wp_region_list ?_;refine wpList_load_mid rfl _ _ rfl g5 0 rfl (Z2).toList _ HZ5.o.rng rfl rfl (by rw[Array.length_toList,HSF.o];rfl) ?_;simp only[Array.toArray_toList,Act.put,List.setIfInBounds_toArray,List.set_cons_succ,List.set_cons_zero];refine wpList_store_row (P:=Tryz.prog) rfl 42 _ _ rfl gr (Z2) rfl rfl _ _ HR5.o (by rw[HSF.o];rfl) (by rw[HSF.o];rfl) HO.o ?_
   go_wp2_with fail
   try simp only[Exit.inBlock,Exit.then]
   refine bodyPost_ret (v:=.agg (Z2)) (qc5 (P:=Tryz.prog) rfl _ _ gr 42 (Z2) _ rfl (setRow_heap _ _ _ _ _ _ HR5.o) rfl rfl (by rw[HSF.o];rfl)) rfl ?_
   exact HEND.o _ _ _ _ HZ5.o HP5.o HR5.o rfl HRW.o fun V hb=>⟨none,0,none,0,none,0,none,0,none,0,none,0,none,0,none,0,rfl,LsR.tnil,LsR.tnil,LsR.tnil,LsR.tnil,LsR.tnil,LsR.tnil,LsR.tnil,LsR.tnil⟩
end
end Go.Proofs.YtmbnlccafcfbeaaGreatDoor
