/- Parts of the proof: RcE, RcF. -/
import Derived.Test.YtmbnlccafcfbeaaGreatDoorPfA
import Derived.Test.YtmbnlccafcfbeaaGreatDoorPf8
set_option linter.unusedVariables false
set_option linter.unusedSimpArgs false
set_option linter.unusedSectionVars false
set_option maxRecDepth 100000
set_option maxHeartbeats 64000000
namespace Go.Proofs.YtmbnlccafcfbeaaGreatDoor
section
open Go.RowKit
attribute [local go_sem] Oper.semAt_some
def PcR:Rel Pc:=fun m N w x r=>∃ A1 c1 A2 c2 A3 c3,r=[uv x.number,iv x.idm,iv x.ids,iv x.kind,iv x.cls,.slice A1 x.fields.length c1,.slice A2 x.mail.length c2,.slice A3 x.watches.length c3]∧LsR (qa6 rfC) 26 8 m N w A1 c1 x.fields∧LsR LtR 29 4 m N w A2 c2 x.mail∧LsR (qa6 waC) 65 12 m N w A3 c3 x.watches
def AnR:Rel An:=fun m N w x r=>∃ A1 c1,r=[iv x.machine,iv x.owner,uv x.number,iv x.epoch,.bool x.known,.bool x.rooted,iv x.last,.slice A1 x.inset.length c1]∧LsR (qa6 inC) 99 3 m N w A1 c1 x.inset
theorem stp_parcel {s s0_ s1_ s2_ s3_ s4_ s5_ s6_:Fs} {x:Pc} {y0_:Int} {y1_:Int × Int} {y2_:Int} {y3_:Int} {y4_:List Rf} {y5_:List Lt} {y6_:List Wa} (h0:(s0_,y0_)=stp qd8 Rd.u s x.number) (h1:(s1_,y1_)=stp qe3 qu2 s0_ (x.idm,x.ids)) (h2:(s2_,y2_)=stp qb7 Rd.i s1_ x.kind) (h3:(s3_,y3_)=stp qb7 Rd.i s2_ x.cls) (h4:(s4_,y4_)=stp (qc6 qc0) (Rd.list 1024 qd3) s3_ x.fields) (h5:(s5_,y5_)=stp (qc6 qc8) (Rd.list 1024 qf2) s4_ x.mail) (h6:(s6_,y6_)=stp (qc6 qe1) (Rd.list 1024 qf8) s5_ x.watches):stp qg8 qu0 s x=(s6_,(⟨y0_,y1_.1,y1_.2,y2_,y3_,y4_,y5_,y6_⟩:Pc)):=by
 cases s with
 | w l =>
  obtain⟨rfl,rfl⟩:=Prod.mk.inj h0;obtain⟨rfl,rfl⟩:=Prod.mk.inj h1;obtain⟨rfl,rfl⟩:=Prod.mk.inj h2;obtain⟨rfl,rfl⟩:=Prod.mk.inj h3;obtain⟨rfl,rfl⟩:=Prod.mk.inj h4;obtain⟨rfl,rfl⟩:=Prod.mk.inj h5;obtain⟨rfl,rfl⟩:=Prod.mk.inj h6
  simp[stp,qg8,qe3,List.append_assoc]
 | r rd =>
  obtain⟨rfl,rfl⟩:=Prod.mk.inj h0;obtain⟨rfl,rfl⟩:=Prod.mk.inj h1;obtain⟨rfl,rfl⟩:=Prod.mk.inj h2;obtain⟨rfl,rfl⟩:=Prod.mk.inj h3;obtain⟨rfl,rfl⟩:=Prod.mk.inj h4;obtain⟨rfl,rfl⟩:=Prod.mk.inj h5;obtain⟨rfl,rfl⟩:=Prod.mk.inj h6
  rfl
section
variable {E:Env} {N:Nat→Prop} {t:TypeId} {b o:Nat} {pre post r:List Value} {w:World} {s:Fs} {x:Pc}
theorem parcel_any (hF:Fm E N w s) (hR:PcR s.md N w x r) (hH:Hd E N t b pre post s.md w r) (ho:pre.length=o) (hz:s.md=false→r=[uv 0,iv 0,iv 0,iv 0,iv 0,sn,sn,sn]∧x=Pc.zero) (ht0:t≠26) (ht1:t≠29) (ht2:t≠65) (hx:pcP x) (hf:s.fit (qg8 x).length):Calls Tryz.prog 54 #[pq E.gf 0,pq b o] w (CpP E N t b pre post (stp qg8 qu0 s x).1 s.md PcR (stp qg8 qu0 s x).2 w):=by
 obtain⟨A1,c1,A2,c2,A3,c3,rfl,hl_fields,hl_mail,hl_watches⟩:=hR
 obtain⟨gf,hgf⟩:∃ gf,gf=E.gf:=⟨_,rfl⟩
 obtain⟨m,hm⟩:∃ m,m=s.md:=⟨_,rfl⟩
 obtain⟨⟨s0_,y0_⟩,hq0⟩:∃ p,p=stp qd8 Rd.u s x.number:=⟨_,rfl⟩
 obtain⟨⟨s1_,y1_⟩,hq1⟩:∃ p,p=stp qe3 qu2 s0_ (x.idm,x.ids):=⟨_,rfl⟩
 obtain⟨⟨s2_,y2_⟩,hq2⟩:∃ p,p=stp qb7 Rd.i s1_ x.kind:=⟨_,rfl⟩
 obtain⟨⟨s3_,y3_⟩,hq3⟩:∃ p,p=stp qb7 Rd.i s2_ x.cls:=⟨_,rfl⟩
 obtain⟨⟨s4_,y4_⟩,hq4⟩:∃ p,p=stp (qc6 qc0) (Rd.list 1024 qd3) s3_ x.fields:=⟨_,rfl⟩
 obtain⟨⟨s5_,y5_⟩,hq5⟩:∃ p,p=stp (qc6 qc8) (Rd.list 1024 qf2) s4_ x.mail:=⟨_,rfl⟩
 obtain⟨⟨s6_,y6_⟩,hq6⟩:∃ p,p=stp (qc6 qe1) (Rd.list 1024 qf8) s5_ x.watches:=⟨_,rfl⟩
 rw[stp_parcel hq0 hq1 hq2 hq3 hq4 hq5 hq6];have hm0:s.md=m:=hm.symm;have hm1:=qb2 hq0 hm0;have hm2:=qb2 hq1 hm1;have hm3:=qb2 hq2 hm2;have hm4:=qb2 hq3 hm3;have hm5:=qb2 hq4 hm4;have hm6:=qb2 hq5 hm5;have hm7:=qb2 hq6 hm6;have hf0:s.fit ((qd8 x.number).length+((qe3 (x.idm,x.ids)).length+((qb7 x.kind).length+((qb7 x.cls).length+(((qc6 qc0) x.fields).length+(((qc6 qc8) x.mail).length+(((qc6 qe1) x.watches).length+(0)))))))):=hf.mono (by unfold qg8;(try unfold qe3);simp only[List.length_append];omega);have hf1:s0_.fit ((qe3 (x.idm,x.ids)).length+((qb7 x.kind).length+((qb7 x.cls).length+(((qc6 qc0) x.fields).length+(((qc6 qc8) x.mail).length+(((qc6 qe1) x.watches).length+(0))))))):=qb0 hq0 hf0;have hf2:s1_.fit ((qb7 x.kind).length+((qb7 x.cls).length+(((qc6 qc0) x.fields).length+(((qc6 qc8) x.mail).length+(((qc6 qe1) x.watches).length+(0)))))):=qb0 hq1 hf1;have hf3:s2_.fit ((qb7 x.cls).length+(((qc6 qc0) x.fields).length+(((qc6 qc8) x.mail).length+(((qc6 qe1) x.watches).length+(0))))):=qb0 hq2 hf2;have hf4:s3_.fit (((qc6 qc0) x.fields).length+(((qc6 qc8) x.mail).length+(((qc6 qe1) x.watches).length+(0)))):=qb0 hq3 hf3;have hf5:s4_.fit (((qc6 qc8) x.mail).length+(((qc6 qe1) x.watches).length+(0))):=qb0 hq4 hf4;have hf6:s5_.fit (((qc6 qe1) x.watches).length+(0)):=qb0 hq5 hf5;have hf7:s6_.fit (0):=qb0 hq6 hf6
 have HZ_fields:Hid (s.md=false→A1=none∧c1=0∧x.fields=[]):=lh fun h=>by
  obtain⟨h1,h2⟩:=hz h;subst h2;simp only[List.cons.injEq,Value.slice.injEq] at h1
  simp[h1,Pc.zero]
 have HZ_mail:Hid (s.md=false→A2=none∧c2=0∧x.mail=[]):=lh fun h=>by
  obtain⟨h1,h2⟩:=hz h;subst h2;simp only[List.cons.injEq,Value.slice.injEq] at h1
  simp[h1,Pc.zero]
 have HZ_watches:Hid (s.md=false→A3=none∧c3=0∧x.watches=[]):=lh fun h=>by
  obtain⟨h1,h2⟩:=hz h;subst h2;simp only[List.cons.injEq,Value.slice.injEq] at h1
  simp[h1,Pc.zero]
 have HM0:=lh hm0;have HFT0:=lh hf0;have HM1:=lh hm1;have HFT1:=lh hf1;have HM2:=lh hm2;have HFT2:=lh hf2;have HM3:=lh hm3;have HFT3:=lh hf3;have HM4:=lh hm4;have HFT4:=lh hf4;have HM5:=lh hm5;have HFT5:=lh hf5;have HM6:=lh hm6;have HFT6:=lh hf6;have HM7:=lh hm7;have HFT7:=lh hf7;have HQ0:=lh hq0;have HQ1:=lh hq1;have HQ2:=lh hq2;have HQ3:=lh hq3;have HQ4:=lh hq4;have HQ5:=lh hq5;have HQ6:=lh hq6;have HX:=lh hx;have HO:=lh ho;have HGF:=lh hgf;have HT:=lh (And.intro ht0 (And.intro ht1 ht2));rw[← hgf,← hm];rw[← hm] at hH hl_fields hl_mail hl_watches;have HBL:Hid (b < w.heap.size):=lh (hH.lt (by simp));have HF:=lh hF;have HH:=lh hH;have HL_fields:=lh hl_fields;have HL_mail:=lh hl_mail;have HL_watches:=lh hl_watches;clear hgf hm hF hH ho hx hf hz hl_fields hl_mail hl_watches ht0 ht1 ht2 hq0 hq1 hq2 hq3 hq4 hq5 hq6 hm0 hf0 hm1 hf1 hm2 hf2 hm3 hf3 hm4 hf4 hm5 hf5 hm6 hf6 hm7 hf7
 go_enter Tryz.func54,Tryz.ntmps54
 have cM0:=qp7 (x:=x.number) (pre:=pre++[]) (post:=[iv x.idm,iv x.ids,iv x.kind,iv x.cls,.slice A1 x.fields.length c1,.slice A2 x.mail.length c2,.slice A3 x.watches.length c3]++post) (o:=o+0) HF.o (show Hd E N t b (pre++[]) ([iv x.idm,iv x.ids,iv x.kind,iv x.cls,.slice A1 x.fields.length c1,.slice A2 x.mail.length c2,.slice A3 x.watches.length c3]++post) s.md w [uv x.number] by rw[HM0.o];exact Hd.sub (r1:=[]) (r2:=[uv x.number]) (r3:=[iv x.idm,iv x.ids,iv x.kind,iv x.cls,.slice A1 x.fields.length c1,.slice A2 x.mail.length c2,.slice A3 x.watches.length c3]) HH.o) (by rw[List.length_append,HO.o];rfl) (HX.o.1) (HFT0.o.mono (by omega));rw[← HQ0.o,HM0.o,← HGF.o] at cM0
 try dsimp only at cM0
 go_wp2_with fail
 refine cM0.mono ?_;rintro e u0_ ⟨rfl,hF5,hH5,hfr5⟩;have hHH:Hd E N t b pre post m u0_ [uv y0_,iv x.idm,iv x.ids,iv x.kind,iv x.cls,.slice A1 x.fields.length c1,.slice A2 x.mail.length c2,.slice A3 x.watches.length c3]:=Hd.back (r1:=[]) (r2:=[uv x.number]) (r3:=[iv x.idm,iv x.ids,iv x.kind,iv x.cls,.slice A1 x.fields.length c1,.slice A2 x.mail.length c2,.slice A3 x.watches.length c3]) (r2':=[uv y0_]) HH.o hfr5 rfl hH5;have HL0_fields:=lh (LsR.fr (qa0 rfC) HL_fields.o HF.o HM0.o HH.o hfr5 HT.o.1 (id) (by decide) (by decide));have HL0_mail:=lh (LsR.fr ltR_rk HL_mail.o HF.o HM0.o HH.o hfr5 HT.o.2.1 (HT.o.1) (by decide) (by show ¬ (_:TypeId)=_;decide));have HL0_watches:=lh (LsR.fr (qa0 waC) HL_watches.o HF.o HM0.o HH.o hfr5 HT.o.2.2 (id) (by decide) (by decide));have HF0_:=lh hF5;have HH0_:=lh hHH;have HFR0_:=lh hfr5;clear cM0 hF5 hH5 hfr5 hHH;have cM1:=id_any (x:=(x.idm,x.ids)) (pre:=pre++[uv y0_]) (post:=[iv x.kind,iv x.cls,.slice A1 x.fields.length c1,.slice A2 x.mail.length c2,.slice A3 x.watches.length c3]++post) (o:=o+1) HF0_.o (show Hd E N t b (pre++[uv y0_]) ([iv x.kind,iv x.cls,.slice A1 x.fields.length c1,.slice A2 x.mail.length c2,.slice A3 x.watches.length c3]++post) s0_.md u0_ [iv x.idm,iv x.ids] by rw[HM1.o];exact Hd.sub (r1:=[uv y0_]) (r2:=[iv x.idm,iv x.ids]) (r3:=[iv x.kind,iv x.cls,.slice A1 x.fields.length c1,.slice A2 x.mail.length c2,.slice A3 x.watches.length c3]) HH0_.o) (by rw[List.length_append,HO.o];rfl) (⟨HX.o.2.1,HX.o.2.2.1⟩) (HFT1.o.mono (by omega));rw[← HQ1.o,HM1.o,← HGF.o] at cM1
 try dsimp only at cM1
 go_wp2_with fail
 refine cM1.mono ?_;rintro e u1_ ⟨rfl,hF5,hH5,hfr5⟩;have hHH:Hd E N t b pre post m u1_ [uv y0_,iv y1_.1,iv y1_.2,iv x.kind,iv x.cls,.slice A1 x.fields.length c1,.slice A2 x.mail.length c2,.slice A3 x.watches.length c3]:=Hd.back (r1:=[uv y0_]) (r2:=[iv x.idm,iv x.ids]) (r3:=[iv x.kind,iv x.cls,.slice A1 x.fields.length c1,.slice A2 x.mail.length c2,.slice A3 x.watches.length c3]) (r2':=[iv y1_.1,iv y1_.2]) HH0_.o hfr5 rfl hH5;have HL1_fields:=lh (LsR.fr (qa0 rfC) HL0_fields.o HF0_.o HM1.o HH0_.o hfr5 HT.o.1 (id) (by decide) (by decide));have HL1_mail:=lh (LsR.fr ltR_rk HL0_mail.o HF0_.o HM1.o HH0_.o hfr5 HT.o.2.1 (HT.o.1) (by decide) (by show ¬ (_:TypeId)=_;decide));have HL1_watches:=lh (LsR.fr (qa0 waC) HL0_watches.o HF0_.o HM1.o HH0_.o hfr5 HT.o.2.2 (id) (by decide) (by decide));have HF1_:=lh hF5;have HH1_:=lh hHH;have HFR1_:=lh (HFR0_.o.trans hfr5);clear cM1 hF5 hH5 hfr5 hHH
 go_wp2_with fail
 refine qc9 9 (fun i=>([[],[],[1],[2],[],[4],[5],[3,6],[0,7]]:List (List Nat)).getD i []) [7,8] (fun i=>([1,0,0,0,0,0,0,0,0]:List Nat).getD i 0) (fun zz=>([pq gf 0,pq b o,pq b o,.pointer (some ⟨b,o+3,none⟩),pq b o,pq b o,.pointer (some ⟨b,o+4,none⟩),bf,bf]:List Value).getD zz (bf)) (CmS (Below u1_.heap.size u1_) (fun v w1=>bw u1_ w1∧∃ q,v=.slice (some ⟨q,0,none⟩) 2 2∧Bk w1 q 105 #[.pointer (some ⟨b,o+3,none⟩),.pointer (some ⟨b,o+4,none⟩)]∧u1_.heap.size≤q) (fun w1=>StP E N t b pre post (qf3 s1_ [x.kind,x.cls] 2).1 s1_.md (ql7 [uv y0_,iv y1_.1,iv y1_.2,iv x.kind,iv x.cls,.slice A1 x.fields.length c1,.slice A2 x.mail.length c2,.slice A3 x.watches.length c3] [3,4] (qf3 s1_ [x.kind,x.cls] 2).2) u1_ (.returned (.tuple #[])) w1)) rfl (by kernel_rfl) (by rfl) (by kernel_rfl) ?_ ?_ ?_ ?_
 ·exact(Below.refl _ _).drew
 ·intro zi hzi hn zo ho k vs w1 hk hlow hS hvs;rcases (show zi=0 ∨ zi=1 ∨ zi=2 ∨ zi=3 ∨ zi=4 ∨ zi=5 ∨ zi=6 ∨ zi=7 ∨ zi=8 by omega) with rfl | rfl | rfl | rfl | rfl | rfl | rfl | rfl | rfl <;> cases ho
  ·clear hS hvs hlow hk hn;change Sem.run _ (execOp (Act.eval (frm _ _ _ [])) _) _=_;simp only[frm];go_simp
  ·clear hS hvs hlow hk hn;change Sem.run _ (execOp (Act.eval (frm _ _ _ [])) _) _=_;simp only[frm];go_simp
  ·have h1:vs 1=pq b o:=hvs 1 (by decide) (by decide);clear hS hvs hlow hk hn;change Sem.run _ (execOp (Act.eval (Act.put (frm _ _ _ []) (some 15) (vs 1))) _) _=_;simp only[frm,h1];go_simp
  ·have h2:vs 2=pq b o:=hvs 2 (by decide) (by decide);clear hS hvs hlow hk hn;change Sem.run _ (execOp (Act.eval (Act.put (frm _ _ _ []) (some 16) (vs 2))) _) _=_;simp only[frm,h2];go_simp
  ·clear hS hvs hlow hk hn;change Sem.run _ (execOp (Act.eval (frm _ _ _ [])) _) _=_;simp only[frm];go_simp
  ·have h4:vs 4=pq b o:=hvs 4 (by decide) (by decide);clear hS hvs hlow hk hn;change Sem.run _ (execOp (Act.eval (Act.put (frm _ _ _ []) (some 18) (vs 4))) _) _=_;simp only[frm,h4];go_simp
  ·have h5:vs 5=pq b o:=hvs 5 (by decide) (by decide);clear hS hvs hlow hk hn;change Sem.run _ (execOp (Act.eval (Act.put (frm _ _ _ []) (some 19) (vs 5))) _) _=_;simp only[frm,h5];go_simp
  ·exact absurd (by decide) hn
  ·exact absurd (by decide) hn
 ·intro p hp o ho vs w1 hS hvs;rcases (show p=0 ∨ p=1 by change p < 2 at hp;omega) with rfl | rfl <;> cases ho
  ·replace hS:bw u1_ w1:=hS;have h3:vs 3=.pointer (some ⟨b,o+3,none⟩):=hvs 3 (by decide) (by decide);have h6:vs 6=.pointer (some ⟨b,o+4,none⟩):=hvs 6 (by decide) (by decide)
   show Made _ (fun v w1=>bw u1_ w1∧∃ q,v=.slice (some ⟨q,0,none⟩) 2 2∧Bk w1 q 105 #[.pointer (some ⟨b,o+3,none⟩),.pointer (some ⟨b,o+4,none⟩)]∧u1_.heap.size≤q) _
   change Made _ _ (Sem.run _ (execOp (Act.eval (Act.put (Act.put (frm _ _ _ []) (some 20) (vs 6)) (some 17) (vs 3))) _) _);simp only[frm,h3,h6];have HB1:=lh hS;clear hS hvs h3 h6;go_simp;exact qa5 ⟨HB1.o.alloc HB1.o.size _,_,rfl,Bk.new _ _ _,HB1.o.size⟩
  ·replace hS:(fun v w1=>bw u1_ w1∧∃ q,v=.slice (some ⟨q,0,none⟩) 2 2∧Bk w1 q 105 #[.pointer (some ⟨b,o+3,none⟩),.pointer (some ⟨b,o+4,none⟩)]∧u1_.heap.size≤q) (vs 7) w1:=hS;have h0:vs 0=pq gf 0:=hvs 0 (by decide) (by decide)
   show Made _ (fun _=>fun w1=>StP E N t b pre post (qf3 s1_ [x.kind,x.cls] 2).1 s1_.md (ql7 [uv y0_,iv y1_.1,iv y1_.2,iv x.kind,iv x.cls,.slice A1 x.fields.length c1,.slice A2 x.mail.length c2,.slice A3 x.watches.length c3] [3,4] (qf3 s1_ [x.kind,x.cls] 2).2) u1_ (.returned (.tuple #[])) w1) _
   change Made _ _ (Sem.run _ (execOp (Act.eval (Act.put (Act.put (frm _ _ _ []) (some 21) (vs 7)) (some 14) (vs 0))) _) _);obtain⟨hb1,q,hq,hbk,hqs⟩:=hS;simp only[frm,h0,hq];have cM:=qh4 (pre:=pre) (post:=post) (js:=[3,4]) (xs:=[x.kind,x.cls]) (HF1_.o.below hb1) ((show Hd E N t b pre post s1_.md u1_ _ by rw[HM2.o];exact HH1_.o).below hb1) HO.o (show Bk w1 q 105 ([3,4].map fun j=>Value.pointer (some ⟨b,o+j,none⟩)).toArray from hbk) (by have:=HBL.o;have:=Kp.size HFR1_.o;omega) (qk6 HF1_.o (by omega)) rfl (by decide) (idx2 rfl rfl) (by simp only[List.mem_cons,List.not_mem_nil,or_false,forall_eq_or_imp,forall_eq];exact⟨HX.o.2.2.2.1,HX.o.2.2.2.2.1⟩) (HFT2.o.mono (by unfold qn3;simp only[List.flatMap_cons,List.flatMap_nil,List.length_append,List.length_nil];omega)) (by decide);rw[← HGF.o] at cM;have HB1:=lh hb1;clear hvs hbk hq hqs hb1 h0;go_simp;exact qg6 (cM.mono fun e w2 ⟨he,h1,h2,h3⟩=>⟨_,he,rfl,h1,h2,(Fr.ofBelow HB1.o).trans h3⟩)
 ·intro vs w5 hS hvs;replace hS:(fun w1=>StP E N t b pre post (qf3 s1_ [x.kind,x.cls] 2).1 s1_.md (ql7 [uv y0_,iv y1_.1,iv y1_.2,iv x.kind,iv x.cls,.slice A1 x.fields.length c1,.slice A2 x.mail.length c2,.slice A3 x.watches.length c3] [3,4] (qf3 s1_ [x.kind,x.cls] 2).2) u1_ (.returned (.tuple #[])) w1) w5:=hS;change wpList _ _ _ [] (Act.put (Act.put (Act.put (Act.put (Act.put (Act.put (Act.put (Act.put (Act.put (frm _ _ _ []) (some 22) (vs 8)) (some 21) (vs 7)) (some 20) (vs 6)) (some 19) (vs 5)) (some 18) (vs 4)) (some 17) (vs 3)) (some 16) (vs 2)) (some 15) (vs 1)) (some 14) (vs 0)) _;simp only[frm];clear hvs;generalize vs 0=z0;generalize vs 1=z1;generalize vs 2=z2;generalize vs 3=z3;generalize vs 4=z4;generalize vs 5=z5;generalize vs 6=z6;generalize vs 7=z7;generalize vs 8=z8;obtain⟨_,hF5,hH5,hfr5⟩:=hS;rw[stpN2 HQ2.o HQ3.o] at hF5 hH5;rw[HM2.o] at hH5 hfr5;replace hH5:Hd E N t b pre post m w5 [uv y0_,iv y1_.1,iv y1_.2,iv y2_,iv y3_,.slice A1 x.fields.length c1,.slice A2 x.mail.length c2,.slice A3 x.watches.length c3]:=hH5;replace hF5:Fm E N w5 s3_:=hF5;have HL2_fields:=lh (LsR.fr (qa0 rfC) HL1_fields.o HF1_.o HM2.o HH1_.o hfr5 HT.o.1 (id) (by decide) (by decide));have HL2_mail:=lh (LsR.fr ltR_rk HL1_mail.o HF1_.o HM2.o HH1_.o hfr5 HT.o.2.1 (HT.o.1) (by decide) (by show ¬ (_:TypeId)=_;decide));have HL2_watches:=lh (LsR.fr (qa0 waC) HL1_watches.o HF1_.o HM2.o HH1_.o hfr5 HT.o.2.2 (id) (by decide) (by decide));have HF2_:=lh hF5;have HH2_:=lh hH5;have HFR2_:=lh (HFR1_.o.trans hfr5);clear hF5 hH5 hfr5;have cM3:=refs_any (l:=x.fields) (A:=A1) (c:=c1) (pre:=pre++[uv y0_,iv y1_.1,iv y1_.2,iv y2_,iv y3_]) (post:=[.slice A2 x.mail.length c2,.slice A3 x.watches.length c3]++post) (o:=o+5) HF2_.o (show LsR (qa6 rfC) 26 8 s3_.md N w5 A1 c1 x.fields by rw[HM4.o];exact HL2_fields.o) (show Hd E N t b (pre++[uv y0_,iv y1_.1,iv y1_.2,iv y2_,iv y3_]) ([.slice A2 x.mail.length c2,.slice A3 x.watches.length c3]++post) s3_.md w5 [.slice A1 x.fields.length c1] by rw[HM4.o];exact Hd.sub (r1:=[uv y0_,iv y1_.1,iv y1_.2,iv y2_,iv y3_]) (r2:=[.slice A1 x.fields.length c1]) (r3:=[.slice A2 x.mail.length c2,.slice A3 x.watches.length c3]) HH2_.o) (by rw[List.length_append,HO.o];rfl) (fun h=>HZ_fields.o (by rw[HM0.o];rw[HM4.o] at h;exact h))  (HX.o.2.2.2.2.2.1.2) (HFT4.o.mono (by omega));rw[← HQ4.o,HM4.o,← HGF.o] at cM3
  try dsimp only at cM3
  go_wp2_with fail
  refine cM3.mono ?_;rintro e u3_ ⟨rfl,hF5,⟨A3_,c3_,hl5,hH5⟩,hfr5⟩;have hHH:Hd E N t b pre post m u3_ [uv y0_,iv y1_.1,iv y1_.2,iv y2_,iv y3_,.slice A3_ y4_.length c3_,.slice A2 x.mail.length c2,.slice A3 x.watches.length c3]:=Hd.back (r1:=[uv y0_,iv y1_.1,iv y1_.2,iv y2_,iv y3_]) (r2:=[.slice A1 x.fields.length c1]) (r3:=[.slice A2 x.mail.length c2,.slice A3 x.watches.length c3]) (r2':=[.slice A3_ y4_.length c3_]) HH2_.o hfr5 rfl hH5;have HL3_mail:=lh (LsR.fr ltR_rk HL2_mail.o HF2_.o HM4.o HH2_.o hfr5 HT.o.2.1 (HT.o.1) (by decide) (by show ¬ (_:TypeId)=_;decide));have HL3_watches:=lh (LsR.fr (qa0 waC) HL2_watches.o HF2_.o HM4.o HH2_.o hfr5 HT.o.2.2 (id) (by decide) (by decide));have HL3_fields:=lh hl5;have HF3_:=lh hF5;have HH3_:=lh hHH;have HFR3_:=lh (HFR2_.o.trans hfr5);clear cM3 hF5 hH5 hfr5 hHH hl5;have cM4:=lsLt_any (l:=x.mail) (A:=A2) (c:=c2) (pre:=pre++[uv y0_,iv y1_.1,iv y1_.2,iv y2_,iv y3_,.slice A3_ y4_.length c3_]) (post:=[.slice A3 x.watches.length c3]++post) (o:=o+6) HF3_.o (show LsR LtR 29 4 s4_.md N u3_ A2 c2 x.mail by rw[HM5.o];exact HL3_mail.o) (show Hd E N t b (pre++[uv y0_,iv y1_.1,iv y1_.2,iv y2_,iv y3_,.slice A3_ y4_.length c3_]) ([.slice A3 x.watches.length c3]++post) s4_.md u3_ [.slice A2 x.mail.length c2] by rw[HM5.o];exact Hd.sub (r1:=[uv y0_,iv y1_.1,iv y1_.2,iv y2_,iv y3_,.slice A3_ y4_.length c3_]) (r2:=[.slice A2 x.mail.length c2]) (r3:=[.slice A3 x.watches.length c3]) HH3_.o) (by rw[List.length_append,HO.o];rfl) (fun h=>HZ_mail.o (by rw[HM0.o];rw[HM5.o] at h;exact h)) HT.o.1 (HX.o.2.2.2.2.2.2.1.2) (HFT5.o.mono (by omega));rw[← HQ5.o,HM5.o,← HGF.o] at cM4
  try dsimp only at cM4
  go_wp2_with fail
  refine cM4.mono ?_;rintro e u4_ ⟨rfl,hF5,⟨A4_,c4_,hl5,hH5⟩,hfr5⟩;have hHH:Hd E N t b pre post m u4_ [uv y0_,iv y1_.1,iv y1_.2,iv y2_,iv y3_,.slice A3_ y4_.length c3_,.slice A4_ y5_.length c4_,.slice A3 x.watches.length c3]:=Hd.back (r1:=[uv y0_,iv y1_.1,iv y1_.2,iv y2_,iv y3_,.slice A3_ y4_.length c3_]) (r2:=[.slice A2 x.mail.length c2]) (r3:=[.slice A3 x.watches.length c3]) (r2':=[.slice A4_ y5_.length c4_]) HH3_.o hfr5 rfl hH5;have HL4_fields:=lh (LsR.fr (qa0 rfC) HL3_fields.o HF3_.o HM5.o HH3_.o hfr5 HT.o.1 (id) (by decide) (by decide));have HL4_watches:=lh (LsR.fr (qa0 waC) HL3_watches.o HF3_.o HM5.o HH3_.o hfr5 HT.o.2.2 (id) (by decide) (by decide));have HL4_mail:=lh hl5;have HF4_:=lh hF5;have HH4_:=lh hHH;have HFR4_:=lh (HFR3_.o.trans hfr5);clear cM4 hF5 hH5 hfr5 hHH hl5;have cM5:=lsWa_any (l:=x.watches) (A:=A3) (c:=c3) (pre:=pre++[uv y0_,iv y1_.1,iv y1_.2,iv y2_,iv y3_,.slice A3_ y4_.length c3_,.slice A4_ y5_.length c4_]) (post:=[]++post) (o:=o+7) HF4_.o (show LsR (qa6 waC) 65 12 s5_.md N u4_ A3 c3 x.watches by rw[HM6.o];exact HL4_watches.o) (show Hd E N t b (pre++[uv y0_,iv y1_.1,iv y1_.2,iv y2_,iv y3_,.slice A3_ y4_.length c3_,.slice A4_ y5_.length c4_]) ([]++post) s5_.md u4_ [.slice A3 x.watches.length c3] by rw[HM6.o];exact Hd.sub (r1:=[uv y0_,iv y1_.1,iv y1_.2,iv y2_,iv y3_,.slice A3_ y4_.length c3_,.slice A4_ y5_.length c4_]) (r2:=[.slice A3 x.watches.length c3]) (r3:=[]) HH4_.o) (by rw[List.length_append,HO.o];rfl) (fun h=>HZ_watches.o (by rw[HM0.o];rw[HM6.o] at h;exact h))  (HX.o.2.2.2.2.2.2.2.2) (HFT6.o.mono (by omega));rw[← HQ6.o,HM6.o,← HGF.o] at cM5
  try dsimp only at cM5
  go_wp2_with fail
  refine cM5.mono ?_;rintro e u5_ ⟨rfl,hF5,⟨A5_,c5_,hl5,hH5⟩,hfr5⟩;have hHH:Hd E N t b pre post m u5_ [uv y0_,iv y1_.1,iv y1_.2,iv y2_,iv y3_,.slice A3_ y4_.length c3_,.slice A4_ y5_.length c4_,.slice A5_ y6_.length c5_]:=Hd.back (r1:=[uv y0_,iv y1_.1,iv y1_.2,iv y2_,iv y3_,.slice A3_ y4_.length c3_,.slice A4_ y5_.length c4_]) (r2:=[.slice A3 x.watches.length c3]) (r3:=[]) (r2':=[.slice A5_ y6_.length c5_]) HH4_.o hfr5 rfl hH5;have HL5_fields:=lh (LsR.fr (qa0 rfC) HL4_fields.o HF4_.o HM6.o HH4_.o hfr5 HT.o.1 (id) (by decide) (by decide));have HL5_mail:=lh (LsR.fr ltR_rk HL4_mail.o HF4_.o HM6.o HH4_.o hfr5 HT.o.2.1 (HT.o.1) (by decide) (by show ¬ (_:TypeId)=_;decide));have HL5_watches:=lh hl5;have HF5_:=lh hF5;have HH5_:=lh hHH;have HFR5_:=lh (HFR4_.o.trans hfr5);clear cM5 hF5 hH5 hfr5 hHH hl5
  go_wp2_with fail
  go_end0
  exact⟨rfl,HF5_.o,⟨_,⟨_,_,_,_,_,_,rfl,HL5_fields.o,HL5_mail.o,HL5_watches.o⟩,HH5_.o⟩,HFR5_.o⟩
end
theorem stp_answer {s s0_ s1_ s2_ s3_ s4_ s5_ s6_ s7_:Fs} {x:An} {y0_:Int} {y1_:Int} {y2_:Int} {y3_:Int} {y4_:Int} {y5_:Bool} {y6_:Bool} {y7_:List In} (h0:(s0_,y0_)=stp qb7 Rd.i s x.machine) (h1:(s1_,y1_)=stp qb7 Rd.i s0_ x.owner) (h2:(s2_,y2_)=stp qb7 Rd.i s1_ x.epoch) (h3:(s3_,y3_)=stp qb7 Rd.i s2_ x.last) (h4:(s4_,y4_)=stp qd8 Rd.u s3_ x.number) (h5:(s5_,y5_)=stp qk0 Rd.bool s4_ x.known) (h6:(s6_,y6_)=stp qk0 Rd.bool s5_ x.rooted) (h7:(s7_,y7_)=stp (qc6 qe0) (Rd.list 1024 qf9) s6_ x.inset):stp qg7 qu4 s x=(s7_,(⟨y0_,y1_,y4_,y2_,y5_,y6_,y3_,y7_⟩:An)):=by
 cases s with
 | w l =>
  obtain⟨rfl,rfl⟩:=Prod.mk.inj h0;obtain⟨rfl,rfl⟩:=Prod.mk.inj h1;obtain⟨rfl,rfl⟩:=Prod.mk.inj h2;obtain⟨rfl,rfl⟩:=Prod.mk.inj h3;obtain⟨rfl,rfl⟩:=Prod.mk.inj h4;obtain⟨rfl,rfl⟩:=Prod.mk.inj h5;obtain⟨rfl,rfl⟩:=Prod.mk.inj h6;obtain⟨rfl,rfl⟩:=Prod.mk.inj h7
  simp[stp,qg7,qe3,List.append_assoc]
 | r rd =>
  obtain⟨rfl,rfl⟩:=Prod.mk.inj h0;obtain⟨rfl,rfl⟩:=Prod.mk.inj h1;obtain⟨rfl,rfl⟩:=Prod.mk.inj h2;obtain⟨rfl,rfl⟩:=Prod.mk.inj h3;obtain⟨rfl,rfl⟩:=Prod.mk.inj h4;obtain⟨rfl,rfl⟩:=Prod.mk.inj h5;obtain⟨rfl,rfl⟩:=Prod.mk.inj h6;obtain⟨rfl,rfl⟩:=Prod.mk.inj h7
  rfl
section
variable {E:Env} {N:Nat→Prop} {t:TypeId} {b o:Nat} {pre post r:List Value} {w:World} {s:Fs} {x:An}
theorem answer_any (hF:Fm E N w s) (hR:AnR s.md N w x r) (hH:Hd E N t b pre post s.md w r) (ho:pre.length=o) (hz:s.md=false→r=[iv 0,iv 0,uv 0,iv 0,bf,bf,iv 0,sn]∧x=An.zero) (ht0:t≠99) (hx:anP x) (hf:s.fit (qg7 x).length):Calls Tryz.prog 55 #[pq E.gf 0,pq b o] w (CpP E N t b pre post (stp qg7 qu4 s x).1 s.md AnR (stp qg7 qu4 s x).2 w):=by
 obtain⟨A1,c1,rfl,hl_inset⟩:=hR
 obtain⟨gf,hgf⟩:∃ gf,gf=E.gf:=⟨_,rfl⟩
 obtain⟨m,hm⟩:∃ m,m=s.md:=⟨_,rfl⟩
 obtain⟨⟨s0_,y0_⟩,hq0⟩:∃ p,p=stp qb7 Rd.i s x.machine:=⟨_,rfl⟩
 obtain⟨⟨s1_,y1_⟩,hq1⟩:∃ p,p=stp qb7 Rd.i s0_ x.owner:=⟨_,rfl⟩
 obtain⟨⟨s2_,y2_⟩,hq2⟩:∃ p,p=stp qb7 Rd.i s1_ x.epoch:=⟨_,rfl⟩
 obtain⟨⟨s3_,y3_⟩,hq3⟩:∃ p,p=stp qb7 Rd.i s2_ x.last:=⟨_,rfl⟩
 obtain⟨⟨s4_,y4_⟩,hq4⟩:∃ p,p=stp qd8 Rd.u s3_ x.number:=⟨_,rfl⟩
 obtain⟨⟨s5_,y5_⟩,hq5⟩:∃ p,p=stp qk0 Rd.bool s4_ x.known:=⟨_,rfl⟩
 obtain⟨⟨s6_,y6_⟩,hq6⟩:∃ p,p=stp qk0 Rd.bool s5_ x.rooted:=⟨_,rfl⟩
 obtain⟨⟨s7_,y7_⟩,hq7⟩:∃ p,p=stp (qc6 qe0) (Rd.list 1024 qf9) s6_ x.inset:=⟨_,rfl⟩
 rw[stp_answer hq0 hq1 hq2 hq3 hq4 hq5 hq6 hq7];have hm0:s.md=m:=hm.symm;have hm1:=qb2 hq0 hm0;have hm2:=qb2 hq1 hm1;have hm3:=qb2 hq2 hm2;have hm4:=qb2 hq3 hm3;have hm5:=qb2 hq4 hm4;have hm6:=qb2 hq5 hm5;have hm7:=qb2 hq6 hm6;have hm8:=qb2 hq7 hm7;have hf0:s.fit ((qb7 x.machine).length+((qb7 x.owner).length+((qb7 x.epoch).length+((qb7 x.last).length+((qd8 x.number).length+((qk0 x.known).length+((qk0 x.rooted).length+(((qc6 qe0) x.inset).length+(0))))))))):=hf.mono (by unfold qg7;(try unfold qe3);simp only[List.length_append];omega);have hf1:s0_.fit ((qb7 x.owner).length+((qb7 x.epoch).length+((qb7 x.last).length+((qd8 x.number).length+((qk0 x.known).length+((qk0 x.rooted).length+(((qc6 qe0) x.inset).length+(0)))))))):=qb0 hq0 hf0;have hf2:s1_.fit ((qb7 x.epoch).length+((qb7 x.last).length+((qd8 x.number).length+((qk0 x.known).length+((qk0 x.rooted).length+(((qc6 qe0) x.inset).length+(0))))))):=qb0 hq1 hf1;have hf3:s2_.fit ((qb7 x.last).length+((qd8 x.number).length+((qk0 x.known).length+((qk0 x.rooted).length+(((qc6 qe0) x.inset).length+(0)))))):=qb0 hq2 hf2;have hf4:s3_.fit ((qd8 x.number).length+((qk0 x.known).length+((qk0 x.rooted).length+(((qc6 qe0) x.inset).length+(0))))):=qb0 hq3 hf3;have hf5:s4_.fit ((qk0 x.known).length+((qk0 x.rooted).length+(((qc6 qe0) x.inset).length+(0)))):=qb0 hq4 hf4;have hf6:s5_.fit ((qk0 x.rooted).length+(((qc6 qe0) x.inset).length+(0))):=qb0 hq5 hf5;have hf7:s6_.fit (((qc6 qe0) x.inset).length+(0)):=qb0 hq6 hf6;have hf8:s7_.fit (0):=qb0 hq7 hf7
 have HZ_inset:Hid (s.md=false→A1=none∧c1=0∧x.inset=[]):=lh fun h=>by
  obtain⟨h1,h2⟩:=hz h;subst h2;simp only[List.cons.injEq,Value.slice.injEq] at h1
  simp[h1,An.zero]
 have HM0:=lh hm0;have HFT0:=lh hf0;have HM1:=lh hm1;have HFT1:=lh hf1;have HM2:=lh hm2;have HFT2:=lh hf2;have HM3:=lh hm3;have HFT3:=lh hf3;have HM4:=lh hm4;have HFT4:=lh hf4;have HM5:=lh hm5;have HFT5:=lh hf5;have HM6:=lh hm6;have HFT6:=lh hf6;have HM7:=lh hm7;have HFT7:=lh hf7;have HM8:=lh hm8;have HFT8:=lh hf8;have HQ0:=lh hq0;have HQ1:=lh hq1;have HQ2:=lh hq2;have HQ3:=lh hq3;have HQ4:=lh hq4;have HQ5:=lh hq5;have HQ6:=lh hq6;have HQ7:=lh hq7;have HX:=lh hx;have HO:=lh ho;have HGF:=lh hgf;have HT:=lh ht0;rw[← hgf,← hm];rw[← hm] at hH hl_inset;have HBL:Hid (b < w.heap.size):=lh (hH.lt (by simp));have HF:=lh hF;have HH:=lh hH;have HL_inset:=lh hl_inset;clear hgf hm hF hH ho hx hf hz hl_inset ht0 hq0 hq1 hq2 hq3 hq4 hq5 hq6 hq7 hm0 hf0 hm1 hf1 hm2 hf2 hm3 hf3 hm4 hf4 hm5 hf5 hm6 hf6 hm7 hf7 hm8 hf8
 go_enter Tryz.func55,Tryz.ntmps55
 go_wp2_with fail
 refine qc9 15 (fun i=>([[],[],[1],[2],[],[4],[5],[],[7],[8],[],[10],[11],[3,6,9,12],[0,13]]:List (List Nat)).getD i []) [13,14] (fun i=>([1,0,0,0,0,0,0,0,0,0,0,0,0,0,0]:List Nat).getD i 0) (fun zz=>([pq gf 0,pq b o,pq b o,pq b o,pq b o,pq b o,.pointer (some ⟨b,o+1,none⟩),pq b o,pq b o,.pointer (some ⟨b,o+3,none⟩),pq b o,pq b o,.pointer (some ⟨b,o+6,none⟩),bf,bf]:List Value).getD zz (bf)) (CmS (Below w.heap.size w) (fun v w1=>bw w w1∧∃ q,v=.slice (some ⟨q,0,none⟩) 4 4∧Bk w1 q 105 #[pq b o,.pointer (some ⟨b,o+1,none⟩),.pointer (some ⟨b,o+3,none⟩),.pointer (some ⟨b,o+6,none⟩)]∧w.heap.size≤q) (fun w1=>StP E N t b pre post (qf3 s [x.machine,x.owner,x.epoch,x.last] 4).1 s.md (ql7 [iv x.machine,iv x.owner,uv x.number,iv x.epoch,.bool x.known,.bool x.rooted,iv x.last,.slice A1 x.inset.length c1] [0,1,3,6] (qf3 s [x.machine,x.owner,x.epoch,x.last] 4).2) w (.returned (.tuple #[])) w1)) rfl (by kernel_rfl) (by rfl) (by kernel_rfl) ?_ ?_ ?_ ?_
 ·exact(Below.refl _ _).drew
 ·intro zi hzi hn zo ho k vs w1 hk hlow hS hvs;rcases (show zi=0 ∨ zi=1 ∨ zi=2 ∨ zi=3 ∨ zi=4 ∨ zi=5 ∨ zi=6 ∨ zi=7 ∨ zi=8 ∨ zi=9 ∨ zi=10 ∨ zi=11 ∨ zi=12 ∨ zi=13 ∨ zi=14 by omega) with rfl | rfl | rfl | rfl | rfl | rfl | rfl | rfl | rfl | rfl | rfl | rfl | rfl | rfl | rfl <;> cases ho
  ·clear hS hvs hlow hk hn;change Sem.run _ (execOp (Act.eval (frm _ _ _ [])) _) _=_;simp only[frm];go_simp
  ·clear hS hvs hlow hk hn;change Sem.run _ (execOp (Act.eval (frm _ _ _ [])) _) _=_;simp only[frm];go_simp
  ·have h1:vs 1=pq b o:=hvs 1 (by decide) (by decide);clear hS hvs hlow hk hn;change Sem.run _ (execOp (Act.eval (Act.put (frm _ _ _ []) (some 5) (vs 1))) _) _=_;simp only[frm,h1];go_simp
  ·have h2:vs 2=pq b o:=hvs 2 (by decide) (by decide);clear hS hvs hlow hk hn;change Sem.run _ (execOp (Act.eval (Act.put (frm _ _ _ []) (some 6) (vs 2))) _) _=_;simp only[frm,h2];go_simp
  ·clear hS hvs hlow hk hn;change Sem.run _ (execOp (Act.eval (frm _ _ _ [])) _) _=_;simp only[frm];go_simp
  ·have h4:vs 4=pq b o:=hvs 4 (by decide) (by decide);clear hS hvs hlow hk hn;change Sem.run _ (execOp (Act.eval (Act.put (frm _ _ _ []) (some 8) (vs 4))) _) _=_;simp only[frm,h4];go_simp
  ·have h5:vs 5=pq b o:=hvs 5 (by decide) (by decide);clear hS hvs hlow hk hn;change Sem.run _ (execOp (Act.eval (Act.put (frm _ _ _ []) (some 9) (vs 5))) _) _=_;simp only[frm,h5];go_simp
  ·clear hS hvs hlow hk hn;change Sem.run _ (execOp (Act.eval (frm _ _ _ [])) _) _=_;simp only[frm];go_simp
  ·have h7:vs 7=pq b o:=hvs 7 (by decide) (by decide);clear hS hvs hlow hk hn;change Sem.run _ (execOp (Act.eval (Act.put (frm _ _ _ []) (some 11) (vs 7))) _) _=_;simp only[frm,h7];go_simp
  ·have h8:vs 8=pq b o:=hvs 8 (by decide) (by decide);clear hS hvs hlow hk hn;change Sem.run _ (execOp (Act.eval (Act.put (frm _ _ _ []) (some 12) (vs 8))) _) _=_;simp only[frm,h8];go_simp
  ·clear hS hvs hlow hk hn;change Sem.run _ (execOp (Act.eval (frm _ _ _ [])) _) _=_;simp only[frm];go_simp
  ·have h10:vs 10=pq b o:=hvs 10 (by decide) (by decide);clear hS hvs hlow hk hn;change Sem.run _ (execOp (Act.eval (Act.put (frm _ _ _ []) (some 14) (vs 10))) _) _=_;simp only[frm,h10];go_simp
  ·have h11:vs 11=pq b o:=hvs 11 (by decide) (by decide);clear hS hvs hlow hk hn;change Sem.run _ (execOp (Act.eval (Act.put (frm _ _ _ []) (some 15) (vs 11))) _) _=_;simp only[frm,h11];go_simp
  ·exact absurd (by decide) hn
  ·exact absurd (by decide) hn
 ·intro p hp o ho vs w1 hS hvs;rcases (show p=0 ∨ p=1 by change p < 2 at hp;omega) with rfl | rfl <;> cases ho
  ·replace hS:bw w w1:=hS;have h3:vs 3=pq b o:=hvs 3 (by decide) (by decide);have h6:vs 6=.pointer (some ⟨b,o+1,none⟩):=hvs 6 (by decide) (by decide);have h9:vs 9=.pointer (some ⟨b,o+3,none⟩):=hvs 9 (by decide) (by decide);have h12:vs 12=.pointer (some ⟨b,o+6,none⟩):=hvs 12 (by decide) (by decide)
   show Made _ (fun v w1=>bw w w1∧∃ q,v=.slice (some ⟨q,0,none⟩) 4 4∧Bk w1 q 105 #[pq b o,.pointer (some ⟨b,o+1,none⟩),.pointer (some ⟨b,o+3,none⟩),.pointer (some ⟨b,o+6,none⟩)]∧w.heap.size≤q) _
   change Made _ _ (Sem.run _ (execOp (Act.eval (Act.put (Act.put (Act.put (Act.put (frm _ _ _ []) (some 16) (vs 12)) (some 13) (vs 9)) (some 10) (vs 6)) (some 7) (vs 3))) _) _);simp only[frm,h3,h6,h9,h12];have HB1:=lh hS;clear hS hvs h3 h6 h9 h12;go_simp;exact qa5 ⟨HB1.o.alloc HB1.o.size _,_,rfl,Bk.new _ _ _,HB1.o.size⟩
  ·replace hS:(fun v w1=>bw w w1∧∃ q,v=.slice (some ⟨q,0,none⟩) 4 4∧Bk w1 q 105 #[pq b o,.pointer (some ⟨b,o+1,none⟩),.pointer (some ⟨b,o+3,none⟩),.pointer (some ⟨b,o+6,none⟩)]∧w.heap.size≤q) (vs 13) w1:=hS;have h0:vs 0=pq gf 0:=hvs 0 (by decide) (by decide)
   show Made _ (fun _=>fun w1=>StP E N t b pre post (qf3 s [x.machine,x.owner,x.epoch,x.last] 4).1 s.md (ql7 [iv x.machine,iv x.owner,uv x.number,iv x.epoch,.bool x.known,.bool x.rooted,iv x.last,.slice A1 x.inset.length c1] [0,1,3,6] (qf3 s [x.machine,x.owner,x.epoch,x.last] 4).2) w (.returned (.tuple #[])) w1) _
   change Made _ _ (Sem.run _ (execOp (Act.eval (Act.put (Act.put (frm _ _ _ []) (some 17) (vs 13)) (some 4) (vs 0))) _) _);obtain⟨hb1,q,hq,hbk,hqs⟩:=hS;simp only[frm,h0,hq];have cM:=qh4 (pre:=pre) (post:=post) (js:=[0,1,3,6]) (xs:=[x.machine,x.owner,x.epoch,x.last]) (HF.o.below hb1) ((show Hd E N t b pre post s.md w _ by rw[HM0.o];exact HH.o).below hb1) HO.o (show Bk w1 q 105 ([0,1,3,6].map fun j=>Value.pointer (some ⟨b,o+j,none⟩)).toArray from hbk) (by have:=HBL.o;omega) (qk6 HF.o (by omega)) rfl (by decide) (idx4 rfl rfl rfl rfl) (by simp only[List.mem_cons,List.not_mem_nil,or_false,forall_eq_or_imp,forall_eq];exact⟨HX.o.1,HX.o.2.1,HX.o.2.2.1,HX.o.2.2.2.1⟩) (HFT0.o.mono (by unfold qn3;simp only[List.flatMap_cons,List.flatMap_nil,List.length_append,List.length_nil];omega)) (by decide);rw[← HGF.o] at cM;have HB1:=lh hb1;clear hvs hbk hq hqs hb1 h0;go_simp;exact qg6 (cM.mono fun e w2 ⟨he,h1,h2,h3⟩=>⟨_,he,rfl,h1,h2,(Fr.ofBelow HB1.o).trans h3⟩)
 ·intro vs w5 hS hvs;replace hS:(fun w1=>StP E N t b pre post (qf3 s [x.machine,x.owner,x.epoch,x.last] 4).1 s.md (ql7 [iv x.machine,iv x.owner,uv x.number,iv x.epoch,.bool x.known,.bool x.rooted,iv x.last,.slice A1 x.inset.length c1] [0,1,3,6] (qf3 s [x.machine,x.owner,x.epoch,x.last] 4).2) w (.returned (.tuple #[])) w1) w5:=hS;change wpList _ _ _ [] (Act.put (Act.put (Act.put (Act.put (Act.put (Act.put (Act.put (Act.put (Act.put (Act.put (Act.put (Act.put (Act.put (Act.put (Act.put (frm _ _ _ []) (some 18) (vs 14)) (some 17) (vs 13)) (some 16) (vs 12)) (some 15) (vs 11)) (some 14) (vs 10)) (some 13) (vs 9)) (some 12) (vs 8)) (some 11) (vs 7)) (some 10) (vs 6)) (some 9) (vs 5)) (some 8) (vs 4)) (some 7) (vs 3)) (some 6) (vs 2)) (some 5) (vs 1)) (some 4) (vs 0)) _;simp only[frm];clear hvs;generalize vs 0=z0;generalize vs 1=z1;generalize vs 2=z2;generalize vs 3=z3;generalize vs 4=z4;generalize vs 5=z5;generalize vs 6=z6;generalize vs 7=z7;generalize vs 8=z8;generalize vs 9=z9;generalize vs 10=z10;generalize vs 11=z11;generalize vs 12=z12;generalize vs 13=z13;generalize vs 14=z14;obtain⟨_,hF5,hH5,hfr5⟩:=hS;rw[stpN4 HQ0.o HQ1.o HQ2.o HQ3.o] at hF5 hH5;rw[HM0.o] at hH5 hfr5;replace hH5:Hd E N t b pre post m w5 [iv y0_,iv y1_,uv x.number,iv y2_,.bool x.known,.bool x.rooted,iv y3_,.slice A1 x.inset.length c1]:=hH5;replace hF5:Fm E N w5 s3_:=hF5;have HL0_inset:=lh (LsR.fr (qa0 inC) HL_inset.o HF.o HM0.o HH.o hfr5 HT.o (id) (by decide) (by decide));have HF0_:=lh hF5;have HH0_:=lh hH5;have HFR0_:=lh hfr5;clear hF5 hH5 hfr5;have cM1:=qp7 (x:=x.number) (pre:=pre++[iv y0_,iv y1_]) (post:=[iv y2_,.bool x.known,.bool x.rooted,iv y3_,.slice A1 x.inset.length c1]++post) (o:=o+2) HF0_.o (show Hd E N t b (pre++[iv y0_,iv y1_]) ([iv y2_,.bool x.known,.bool x.rooted,iv y3_,.slice A1 x.inset.length c1]++post) s3_.md w5 [uv x.number] by rw[HM4.o];exact Hd.sub (r1:=[iv y0_,iv y1_]) (r2:=[uv x.number]) (r3:=[iv y2_,.bool x.known,.bool x.rooted,iv y3_,.slice A1 x.inset.length c1]) HH0_.o) (by rw[List.length_append,HO.o];rfl) (HX.o.2.2.2.2.1) (HFT4.o.mono (by omega));rw[← HQ4.o,HM4.o,← HGF.o] at cM1
  try dsimp only at cM1
  go_wp2_with fail
  refine cM1.mono ?_;rintro e u1_ ⟨rfl,hF5,hH5,hfr5⟩;have hHH:Hd E N t b pre post m u1_ [iv y0_,iv y1_,uv y4_,iv y2_,.bool x.known,.bool x.rooted,iv y3_,.slice A1 x.inset.length c1]:=Hd.back (r1:=[iv y0_,iv y1_]) (r2:=[uv x.number]) (r3:=[iv y2_,.bool x.known,.bool x.rooted,iv y3_,.slice A1 x.inset.length c1]) (r2':=[uv y4_]) HH0_.o hfr5 rfl hH5;have HL1_inset:=lh (LsR.fr (qa0 inC) HL0_inset.o HF0_.o HM4.o HH0_.o hfr5 HT.o (id) (by decide) (by decide));have HF1_:=lh hF5;have HH1_:=lh hHH;have HFR1_:=lh (HFR0_.o.trans hfr5);clear cM1 hF5 hH5 hfr5 hHH;have cM2:=Flg_any (x:=x.known) (pre:=pre++[iv y0_,iv y1_,uv y4_,iv y2_]) (post:=[.bool x.rooted,iv y3_,.slice A1 x.inset.length c1]++post) (o:=o+4) HF1_.o (show Hd E N t b (pre++[iv y0_,iv y1_,uv y4_,iv y2_]) ([.bool x.rooted,iv y3_,.slice A1 x.inset.length c1]++post) s4_.md u1_ [.bool x.known] by rw[HM5.o];exact Hd.sub (r1:=[iv y0_,iv y1_,uv y4_,iv y2_]) (r2:=[.bool x.known]) (r3:=[.bool x.rooted,iv y3_,.slice A1 x.inset.length c1]) HH1_.o) (by rw[List.length_append,HO.o];rfl) (trivial) (HFT5.o.mono (by omega));rw[← HQ5.o,HM5.o,← HGF.o] at cM2
  try dsimp only at cM2
  go_wp2_with fail
  refine cM2.mono ?_;rintro e u2_ ⟨rfl,hF5,hH5,hfr5⟩;have hHH:Hd E N t b pre post m u2_ [iv y0_,iv y1_,uv y4_,iv y2_,.bool y5_,.bool x.rooted,iv y3_,.slice A1 x.inset.length c1]:=Hd.back (r1:=[iv y0_,iv y1_,uv y4_,iv y2_]) (r2:=[.bool x.known]) (r3:=[.bool x.rooted,iv y3_,.slice A1 x.inset.length c1]) (r2':=[.bool y5_]) HH1_.o hfr5 rfl hH5;have HL2_inset:=lh (LsR.fr (qa0 inC) HL1_inset.o HF1_.o HM5.o HH1_.o hfr5 HT.o (id) (by decide) (by decide));have HF2_:=lh hF5;have HH2_:=lh hHH;have HFR2_:=lh (HFR1_.o.trans hfr5);clear cM2 hF5 hH5 hfr5 hHH;have cM3:=Flg_any (x:=x.rooted) (pre:=pre++[iv y0_,iv y1_,uv y4_,iv y2_,.bool y5_]) (post:=[iv y3_,.slice A1 x.inset.length c1]++post) (o:=o+5) HF2_.o (show Hd E N t b (pre++[iv y0_,iv y1_,uv y4_,iv y2_,.bool y5_]) ([iv y3_,.slice A1 x.inset.length c1]++post) s5_.md u2_ [.bool x.rooted] by rw[HM6.o];exact Hd.sub (r1:=[iv y0_,iv y1_,uv y4_,iv y2_,.bool y5_]) (r2:=[.bool x.rooted]) (r3:=[iv y3_,.slice A1 x.inset.length c1]) HH2_.o) (by rw[List.length_append,HO.o];rfl) (trivial) (HFT6.o.mono (by omega));rw[← HQ6.o,HM6.o,← HGF.o] at cM3
  try dsimp only at cM3
  go_wp2_with fail
  refine cM3.mono ?_;rintro e u3_ ⟨rfl,hF5,hH5,hfr5⟩;have hHH:Hd E N t b pre post m u3_ [iv y0_,iv y1_,uv y4_,iv y2_,.bool y5_,.bool y6_,iv y3_,.slice A1 x.inset.length c1]:=Hd.back (r1:=[iv y0_,iv y1_,uv y4_,iv y2_,.bool y5_]) (r2:=[.bool x.rooted]) (r3:=[iv y3_,.slice A1 x.inset.length c1]) (r2':=[.bool y6_]) HH2_.o hfr5 rfl hH5;have HL3_inset:=lh (LsR.fr (qa0 inC) HL2_inset.o HF2_.o HM6.o HH2_.o hfr5 HT.o (id) (by decide) (by decide));have HF3_:=lh hF5;have HH3_:=lh hHH;have HFR3_:=lh (HFR2_.o.trans hfr5);clear cM3 hF5 hH5 hfr5 hHH;have cM4:=lsIn_any (l:=x.inset) (A:=A1) (c:=c1) (pre:=pre++[iv y0_,iv y1_,uv y4_,iv y2_,.bool y5_,.bool y6_,iv y3_]) (post:=[]++post) (o:=o+7) HF3_.o (show LsR (qa6 inC) 99 3 s6_.md N u3_ A1 c1 x.inset by rw[HM7.o];exact HL3_inset.o) (show Hd E N t b (pre++[iv y0_,iv y1_,uv y4_,iv y2_,.bool y5_,.bool y6_,iv y3_]) ([]++post) s6_.md u3_ [.slice A1 x.inset.length c1] by rw[HM7.o];exact Hd.sub (r1:=[iv y0_,iv y1_,uv y4_,iv y2_,.bool y5_,.bool y6_,iv y3_]) (r2:=[.slice A1 x.inset.length c1]) (r3:=[]) HH3_.o) (by rw[List.length_append,HO.o];rfl) (fun h=>HZ_inset.o (by rw[HM0.o];rw[HM7.o] at h;exact h))  (HX.o.2.2.2.2.2.2) (HFT7.o.mono (by omega));rw[← HQ7.o,HM7.o,← HGF.o] at cM4
  try dsimp only at cM4
  go_wp2_with fail
  refine cM4.mono ?_;rintro e u4_ ⟨rfl,hF5,⟨A4_,c4_,hl5,hH5⟩,hfr5⟩;have hHH:Hd E N t b pre post m u4_ [iv y0_,iv y1_,uv y4_,iv y2_,.bool y5_,.bool y6_,iv y3_,.slice A4_ y7_.length c4_]:=Hd.back (r1:=[iv y0_,iv y1_,uv y4_,iv y2_,.bool y5_,.bool y6_,iv y3_]) (r2:=[.slice A1 x.inset.length c1]) (r3:=[]) (r2':=[.slice A4_ y7_.length c4_]) HH3_.o hfr5 rfl hH5;have HL4_inset:=lh hl5;have HF4_:=lh hF5;have HH4_:=lh hHH;have HFR4_:=lh (HFR3_.o.trans hfr5);clear cM4 hF5 hH5 hfr5 hHH hl5
  go_wp2_with fail
  go_end0
  exact⟨rfl,HF4_.o,⟨_,⟨_,_,rfl,HL4_inset.o⟩,HH4_.o⟩,HFR4_.o⟩
end
end
section
open Go.RowKit
attribute [local go_sem] Oper.semAt_some
abbrev NdL (m:Bool) (N:Nat→Prop) (w:World) (A:Option Addr) (c:Nat) (l:List Nd):Prop:=LsR (qa6 ndC) 136 3 m N w A c l
def ClR:Rel Cl:=fun m N w x r=>∃ A1 c1 A2 c2 A3 c3,r=[iv x.machine,iv x.epoch,.slice A1 x.stubs.length c1,.slice A2 x.scions.length c2,.slice A3 x.checks.length c3]∧NdL m N w A1 c1 x.stubs∧NdL m N w A2 c2 x.scions∧NdL m N w A3 c3 x.checks
section
variable {E:Env} {N N2:Nat→Prop} {t:TypeId} {b c q:Nat} {A:Option Addr} {pre post r:List Value} {m:Bool} {w w':World} {l:List Nd}
theorem NdL.up (h:NdL m N w A c l) (hs:∀ k,N k→N2 k):NdL m N2 w A c l:=by
 unfold NdL LsR at h ⊢
 cases m with
 | true =>
  rw[if_pos rfl] at h ⊢;refine⟨h.1,h.2.1,h.2.2.imp id fun⟨b,o,h1,h2,h3⟩=>⟨b,o,h1,hs b h2,fun i x hx=>?_⟩⟩;obtain⟨r,g1,g2,g3⟩:=h3 i x hx;exact⟨r,g1,g2,g3⟩
 | false=>rw[if_neg (by simp)] at h ⊢;exact h
theorem NdL.down {ps:List (Option Addr)} (h:NdL m (fun k=>N k ∨ k=q) w A c l) (hq:Bk w q t (ps.map Value.pointer).toArray):NdL m N w A c l:=by
 unfold NdL LsR at h ⊢
 cases m with
 | true =>
  rw[if_pos rfl] at h ⊢;refine⟨h.1,h.2.1,?_⟩
  by_cases h0:l.length=0
  ·exact .inl h0
  ·obtain⟨b,o,h1,h2,h3⟩:=h.2.2.resolve_left h0;refine .inr ⟨b,o,h1,h2.resolve_right fun e=>?_,fun i x hx=>?_⟩
   ·subst e;obtain⟨r,g1,g2,g3⟩:=h3 0 l[0] (List.getElem?_eq_getElem (by omega));unfold qa6 at g2;subst g2;have:=(g3 0 _ rfl).1;rw[hq.cell,List.getElem?_toArray,List.getElem?_map] at this;obtain⟨a,_,ha⟩:=Option.map_eq_some_iff.1 this;cases ha
   ·obtain⟨r,g1,g2,g3⟩:=h3 i x hx;exact⟨r,g1,g2,g3⟩
 | false=>rw[if_neg (by simp)] at h ⊢;exact h
theorem Hd.up (h:Hd E N t b pre post m w r) (hs:∀ k,N k→N2 k):Hd E N2 t b pre post m w r:=by
 unfold Hd at h ⊢
 cases m with
 | true=>rw[if_pos rfl] at h ⊢;exact⟨hs b h.1,h.2⟩
 | false=>rw[if_neg (by simp)] at h ⊢;exact h
theorem Hd.down (h:Hd E N2 t b pre post m w r) (hb:m=true→N b):Hd E N t b pre post m w r:=by
 unfold Hd at h ⊢
 cases m with
 | true=>rw[if_pos rfl] at h ⊢;exact⟨hb rfl,h.2⟩
 | false=>rw[if_neg (by simp)] at h ⊢;exact h
theorem Hd.nb (h:Hd E N t b pre post true w r):N b:=by unfold Hd at h;rw[if_pos rfl] at h;exact h.1
theorem Fr.down (h:Fr E N2 b m w w') (hs:∀ k,N k→N2 k):Fr E N b m w w':=Kp.mono h fun k _ hk=>by
 unfold FrS at hk ⊢
 split
 ·rename_i hm
  rw[if_pos hm] at hk;exact fun hn=>hk (hs k hn)
 ·rename_i hm
  rw[if_neg hm] at hk;exact hk
end
def ClI (E:Env) (N:Nat→Prop) (t:TypeId) (b:Nat) (pre post:List Value) (m:Bool) (y0 y1:Int) (sts:Nat→Fs) (Ls:Nat→Nat→List Nd) (A0 A1 A2:Option Addr) (c0 c1 c2:Nat) (W:World) (i:Nat) (w:World):Prop :=
 ∃ B0 d0 B1 d1 B2 d2,Fm E N w (sts i)∧Hd E N t b pre post m w [iv y0,iv y1,.slice B0 (Ls 0 i).length d0,.slice B1 (Ls 1 i).length d1,.slice B2 (Ls 2 i).length d2]∧NdL m N w B0 d0 (Ls 0 i)∧NdL m N w B1 d1 (Ls 1 i)∧NdL m N w B2 d2 (Ls 2 i)∧(i≤0→B0=A0∧d0=c0)∧(i≤1→B1=A1∧d1=c1)∧(i≤2→B2=A2∧d2=c2)∧Fr E N b m W w
def ClS (D0:World→Prop) (D1:Value→World→Prop) (D2:Value→Value→World→Prop):List Value→World→Prop
 | []=>D0
 | [v]=>D1 v
 | v::u::_=>D2 v u
theorem stp_claim {s s0_ s1_ s2_ s3_ s4_:Fs} {x:Cl} {y0_ y1_:Int} {y2_ y3_ y4_:List Nd} (h0:(s0_,y0_)=stp qb7 Rd.i s x.machine) (h1:(s1_,y1_)=stp qb7 Rd.i s0_ x.epoch) (h2:(s2_,y2_)=stp (qc6 qd4) (Rd.list 1024 qe9) s1_ x.stubs) (h3:(s3_,y3_)=stp (qc6 qd4) (Rd.list 1024 qe9) s2_ x.scions) (h4:(s4_,y4_)=stp (qc6 qd4) (Rd.list 1024 qe9) s3_ x.checks):stp qg5 qu3 s x=(s4_,(⟨y0_,y1_,y2_,y3_,y4_⟩:Cl)):=by
 cases s with
 | w l =>
  obtain⟨rfl,rfl⟩:=Prod.mk.inj h0;obtain⟨rfl,rfl⟩:=Prod.mk.inj h1;obtain⟨rfl,rfl⟩:=Prod.mk.inj h2;obtain⟨rfl,rfl⟩:=Prod.mk.inj h3;obtain⟨rfl,rfl⟩:=Prod.mk.inj h4
  simp[stp,qg5,List.append_assoc]
 | r rd =>
  obtain⟨rfl,rfl⟩:=Prod.mk.inj h0;obtain⟨rfl,rfl⟩:=Prod.mk.inj h1;obtain⟨rfl,rfl⟩:=Prod.mk.inj h2;obtain⟨rfl,rfl⟩:=Prod.mk.inj h3;obtain⟨rfl,rfl⟩:=Prod.mk.inj h4
  rfl
section
variable {E:Env} {N:Nat→Prop} {t:TypeId} {b o:Nat} {pre post r:List Value} {w:World} {s:Fs} {x:Cl}
theorem claim_any (hF:Fm E N w s) (hR:ClR s.md N w x r) (hH:Hd E N t b pre post s.md w r) (ho:pre.length=o) (hz:s.md=false→r=[iv 0,iv 0,sn,sn,sn]∧x=Cl.zero) (ht0:t≠136) (hx:clP x) (hf:s.fit (qg5 x).length):Calls Tryz.prog 56 #[pq E.gf 0,pq b o] w (CpP E N t b pre post (stp qg5 qu3 s x).1 s.md ClR (stp qg5 qu3 s x).2 w):=by
 obtain⟨A0,c0,A1,c1,A2,c2,rfl,hl_0,hl_1,hl_2⟩:=hR
 obtain⟨gf,hgf⟩:∃ gf,gf=E.gf:=⟨_,rfl⟩
 obtain⟨m,hm⟩:∃ m,m=s.md:=⟨_,rfl⟩
 obtain⟨⟨s0_,y0_⟩,hq0⟩:∃ p,p=stp qb7 Rd.i s x.machine:=⟨_,rfl⟩
 obtain⟨⟨s1_,y1_⟩,hq1⟩:∃ p,p=stp qb7 Rd.i s0_ x.epoch:=⟨_,rfl⟩
 obtain⟨⟨s2_,y2_⟩,hq2⟩:∃ p,p=stp (qc6 qd4) (Rd.list 1024 qe9) s1_ x.stubs:=⟨_,rfl⟩
 obtain⟨⟨s3_,y3_⟩,hq3⟩:∃ p,p=stp (qc6 qd4) (Rd.list 1024 qe9) s2_ x.scions:=⟨_,rfl⟩
 obtain⟨⟨s4_,y4_⟩,hq4⟩:∃ p,p=stp (qc6 qd4) (Rd.list 1024 qe9) s3_ x.checks:=⟨_,rfl⟩
 rw[stp_claim hq0 hq1 hq2 hq3 hq4];have hm0:s.md=m:=hm.symm;have hm1:=qb2 hq0 hm0;have hm2:=qb2 hq1 hm1;have hm3:=qb2 hq2 hm2;have hm4:=qb2 hq3 hm3;have hm5:=qb2 hq4 hm4;have hf0:s.fit ((qb7 x.machine).length+((qb7 x.epoch).length+((qc6 qd4 x.stubs).length+((qc6 qd4 x.scions).length+((qc6 qd4 x.checks).length+0))))):=hf.mono (by unfold qg5;simp only[List.length_append];omega);have hf1:=qb0 hq0 hf0;have hf2:=qb0 hq1 hf1;have hf3:=qb0 hq2 hf2;have hf4:=qb0 hq3 hf3
 have HZ:Hid (m=false→(A0=none∧c0=0∧x.stubs=[])∧(A1=none∧c1=0∧x.scions=[])∧(A2=none∧c2=0∧x.checks=[])):=lh fun h=>by
  obtain⟨h1,h2⟩:=hz (hm0.trans h);subst h2;simp only[List.cons.injEq,Value.slice.injEq] at h1
  simp[h1,Cl.zero]
 have HM:=lh (And.intro hm0 (And.intro hm1 (And.intro hm2 (And.intro hm3 (And.intro hm4 hm5)))));have HFT:=lh (And.intro hf0 (And.intro hf1 (And.intro hf2 (And.intro hf3 hf4))));have HQ0:=lh hq0;have HQ1:=lh hq1;have HQ2:=lh hq2;have HQ3:=lh hq3;have HQ4:=lh hq4;have HX:=lh hx;have HO:=lh ho;have HGF:=lh hgf;have HT:=lh ht0;rw[← hgf,← hm];rw[← hm] at hH hl_0 hl_1 hl_2;have HBL:Hid (b < w.heap.size):=lh (hH.lt (by simp));have HNB:Hid (m=true→N b):=lh fun h=>by subst h;exact hH.nb
 have HF:=lh hF;have HH:=lh hH;have HL:=lh (And.intro hl_0 (And.intro hl_1 hl_2));clear hgf hm hF hH ho hx hf hz hl_0 hl_1 hl_2 ht0 hq0 hq1 hq2 hq3 hq4 hm0 hm1 hm2 hm3 hm4 hm5 hf0 hf1 hf2 hf3 hf4
 go_enter Tryz.func56,Tryz.ntmps56
 go_wp2_with fail
 refine qc9 9 (fun i=>([[],[],[1],[2],[],[4],[5],[3,6],[0,7]]:List (List Nat)).getD i []) [7,8] (fun i=>([1,0,0,0,0,0,0,0,0]:List Nat).getD i 0) (fun zz=>([pq gf 0,pq b o,pq b o,pq b o,pq b o,pq b o,.pointer (some ⟨b,o+1,none⟩),bf,bf]:List Value).getD zz (bf)) (CmS (Below w.heap.size w) (fun v w1=>bw w w1∧∃ q,v=.slice (some ⟨q,0,none⟩) 2 2∧Bk w1 q 105 #[pq b o,.pointer (some ⟨b,o+1,none⟩)]∧w.heap.size≤q) (fun w1=>StP E N t b pre post (qf3 s [x.machine,x.epoch] 2).1 s.md (ql7 [iv x.machine,iv x.epoch,.slice A0 x.stubs.length c0,.slice A1 x.scions.length c1,.slice A2 x.checks.length c2] [0,1] (qf3 s [x.machine,x.epoch] 2).2) w (.returned (.tuple #[])) w1)) rfl (by kernel_rfl) (by rfl) (by kernel_rfl) ?_ ?_ ?_ ?_
 ·exact(Below.refl _ _).drew
 ·intro zi hzi hn zo ho k vs w1 hk hlow hS hvs;rcases (show zi=0 ∨ zi=1 ∨ zi=2 ∨ zi=3 ∨ zi=4 ∨ zi=5 ∨ zi=6 ∨ zi=7 ∨ zi=8 by omega) with rfl | rfl | rfl | rfl | rfl | rfl | rfl | rfl | rfl <;> cases ho
  ·clear hS hvs hlow hk hn;change Sem.run _ (execOp (Act.eval (frm _ _ _ [])) _) _=_;simp only[frm];go_simp
  ·clear hS hvs hlow hk hn;change Sem.run _ (execOp (Act.eval (frm _ _ _ [])) _) _=_;simp only[frm];go_simp
  ·have h1:vs 1=pq b o:=hvs 1 (by decide) (by decide);clear hS hvs hlow hk hn;change Sem.run _ (execOp (Act.eval (Act.put (frm _ _ _ []) (some 7) (vs 1))) _) _=_;simp only[frm,h1];go_simp
  ·have h2:vs 2=pq b o:=hvs 2 (by decide) (by decide);clear hS hvs hlow hk hn;change Sem.run _ (execOp (Act.eval (Act.put (frm _ _ _ []) (some 8) (vs 2))) _) _=_;simp only[frm,h2];go_simp
  ·clear hS hvs hlow hk hn;change Sem.run _ (execOp (Act.eval (frm _ _ _ [])) _) _=_;simp only[frm];go_simp
  ·have h4:vs 4=pq b o:=hvs 4 (by decide) (by decide);clear hS hvs hlow hk hn;change Sem.run _ (execOp (Act.eval (Act.put (frm _ _ _ []) (some 10) (vs 4))) _) _=_;simp only[frm,h4];go_simp
  ·have h5:vs 5=pq b o:=hvs 5 (by decide) (by decide);clear hS hvs hlow hk hn;change Sem.run _ (execOp (Act.eval (Act.put (frm _ _ _ []) (some 11) (vs 5))) _) _=_;simp only[frm,h5];go_simp
  ·exact absurd (by decide) hn
  ·exact absurd (by decide) hn
 ·intro p hp o ho vs w1 hS hvs;rcases (show p=0 ∨ p=1 by change p < 2 at hp;omega) with rfl | rfl <;> cases ho
  ·replace hS:bw w w1:=hS;have h3:vs 3=pq b o:=hvs 3 (by decide) (by decide);have h6:vs 6=.pointer (some ⟨b,o+1,none⟩):=hvs 6 (by decide) (by decide)
   show Made _ (fun v w1=>bw w w1∧∃ q,v=.slice (some ⟨q,0,none⟩) 2 2∧Bk w1 q 105 #[pq b o,.pointer (some ⟨b,o+1,none⟩)]∧w.heap.size≤q) _
   change Made _ _ (Sem.run _ (execOp (Act.eval (Act.put (Act.put (frm _ _ _ []) (some 12) (vs 6)) (some 9) (vs 3))) _) _);simp only[frm,h3,h6];have HB1:=lh hS;clear hS hvs h3 h6;go_simp;exact qa5 ⟨HB1.o.alloc HB1.o.size _,_,rfl,Bk.new _ _ _,HB1.o.size⟩
  ·replace hS:(fun v w1=>bw w w1∧∃ q,v=.slice (some ⟨q,0,none⟩) 2 2∧Bk w1 q 105 #[pq b o,.pointer (some ⟨b,o+1,none⟩)]∧w.heap.size≤q) (vs 7) w1:=hS;have h0:vs 0=pq gf 0:=hvs 0 (by decide) (by decide)
   show Made _ (fun _=>fun w1=>StP E N t b pre post (qf3 s [x.machine,x.epoch] 2).1 s.md (ql7 [iv x.machine,iv x.epoch,.slice A0 x.stubs.length c0,.slice A1 x.scions.length c1,.slice A2 x.checks.length c2] [0,1] (qf3 s [x.machine,x.epoch] 2).2) w (.returned (.tuple #[])) w1) _
   change Made _ _ (Sem.run _ (execOp (Act.eval (Act.put (Act.put (frm _ _ _ []) (some 13) (vs 7)) (some 6) (vs 0))) _) _);obtain⟨hb1,q,hq,hbk,hqs⟩:=hS;simp only[frm,h0,hq];have cM:=qh4 (pre:=pre) (post:=post) (js:=[0,1]) (xs:=[x.machine,x.epoch]) (HF.o.below hb1) ((show Hd E N t b pre post s.md w _ by rw[HM.o.1];exact HH.o).below hb1) HO.o (show Bk w1 q 105 ([0,1].map fun j=>Value.pointer (some ⟨b,o+j,none⟩)).toArray from hbk) (by have:=HBL.o;omega) (qk6 HF.o (by omega)) rfl (by decide) (idx2 rfl rfl) (by simp only[List.mem_cons,List.not_mem_nil,or_false,forall_eq_or_imp,forall_eq];exact⟨HX.o.1,HX.o.2.1⟩) (HFT.o.1.mono (by unfold qn3;simp only[List.flatMap_cons,List.flatMap_nil,List.length_append,List.length_nil];omega)) (by decide);rw[← HGF.o] at cM;have HB1:=lh hb1;clear hvs hbk hq hqs hb1 h0;go_simp;exact qg6 (cM.mono fun e w2 ⟨he,h1,h2,h3⟩=>⟨_,he,rfl,h1,h2,(Fr.ofBelow HB1.o).trans h3⟩)
 ·intro vs w5 hS hvs;replace hS:(fun w1=>StP E N t b pre post (qf3 s [x.machine,x.epoch] 2).1 s.md (ql7 [iv x.machine,iv x.epoch,.slice A0 x.stubs.length c0,.slice A1 x.scions.length c1,.slice A2 x.checks.length c2] [0,1] (qf3 s [x.machine,x.epoch] 2).2) w (.returned (.tuple #[])) w1) w5:=hS;change wpList _ _ _ [] (Act.put (Act.put (Act.put (Act.put (Act.put (Act.put (Act.put (Act.put (Act.put (frm _ _ _ []) (some 14) (vs 8)) (some 13) (vs 7)) (some 12) (vs 6)) (some 11) (vs 5)) (some 10) (vs 4)) (some 9) (vs 3)) (some 8) (vs 2)) (some 7) (vs 1)) (some 6) (vs 0)) _;simp only[frm];clear hvs;generalize vs 0=z0;generalize vs 1=z1;generalize vs 2=z2;generalize vs 3=z3;generalize vs 4=z4;generalize vs 5=z5;generalize vs 6=z6;generalize vs 7=z7;generalize vs 8=z8;obtain⟨_,hF5,hH5,hfr5⟩:=hS;rw[stpN2 HQ0.o HQ1.o] at hF5 hH5;rw[HM.o.1] at hH5 hfr5;replace hH5:Hd E N t b pre post m w5 [iv y0_,iv y1_,.slice A0 x.stubs.length c0,.slice A1 x.scions.length c1,.slice A2 x.checks.length c2]:=hH5;replace hF5:Fm E N w5 s1_:=hF5;have hl0:=LsR.fr (qa0 ndC) HL.o.1 HF.o HM.o.1 HH.o hfr5 HT.o id (by decide) (by decide);have hl1:=LsR.fr (qa0 ndC) HL.o.2.1 HF.o HM.o.1 HH.o hfr5 HT.o id (by decide) (by decide);have hl2:=LsR.fr (qa0 ndC) HL.o.2.2 HF.o HM.o.1 HH.o hfr5 HT.o id (by decide) (by decide);have HF5:=lh hF5;have HH5:=lh hH5;have HFR5:=lh hfr5;have HL5:=lh (And.intro hl0 (And.intro hl1 hl2));have hbz:b < w5.heap.size:=hH5.lt (by simp);clear hF5 hH5 hfr5 hl0 hl1 hl2
  go_wp2_with fail
  refine qc9 12 (fun i=>([[],[0],[1],[],[3],[4],[],[6],[7],[2,5,8],[9],[]]:List (List Nat)).getD i []) [9,10] (fun i=>([0,0,0,0,0,0,0,0,0,0,0,2]:List Nat).getD i 0) (fun zz=>([pq b o,pq b o,.pointer (some ⟨b,o+2,none⟩),pq b o,pq b o,.pointer (some ⟨b,o+3,none⟩),pq b o,pq b o,.pointer (some ⟨b,o+4,none⟩),bf,bf,iv 0]:List Value).getD zz (bf)) (ClS (Below w5.heap.size w5) (fun v w1=>bw w5 w1∧∃ q,v=.slice (some ⟨q,0,none⟩) 3 3∧Bk w1 q 152 #[.pointer (some ⟨b,o+2,none⟩),.pointer (some ⟨b,o+3,none⟩),.pointer (some ⟨b,o+4,none⟩)]∧w5.heap.size≤q) (fun v u w1=>u=iv 3∧(fun v w1=>bw w5 w1∧∃ q,v=.slice (some ⟨q,0,none⟩) 3 3∧Bk w1 q 152 #[.pointer (some ⟨b,o+2,none⟩),.pointer (some ⟨b,o+3,none⟩),.pointer (some ⟨b,o+4,none⟩)]∧w5.heap.size≤q) v w1)) rfl (by kernel_rfl) (by rfl) (by kernel_rfl) ?_ ?_ ?_ ?_
  ·exact(Below.refl _ _).drew
  ·intro zi hzi hn zo ho k vs w1 hk hlow hS hvs;rcases (show zi=0 ∨ zi=1 ∨ zi=2 ∨ zi=3 ∨ zi=4 ∨ zi=5 ∨ zi=6 ∨ zi=7 ∨ zi=8 ∨ zi=9 ∨ zi=10 ∨ zi=11 by omega) with rfl | rfl | rfl | rfl | rfl | rfl | rfl | rfl | rfl | rfl | rfl | rfl <;> cases ho
   ·clear hS hvs hlow hk hn;change Sem.run _ (execOp (Act.eval (frm _ _ _ [])) _) _=_;simp only[frm];go_simp
   ·have h0:vs 0=pq b o:=hvs 0 (by decide) (by decide);clear hS hvs hlow hk hn;change Sem.run _ (execOp (Act.eval (Act.put (frm _ _ _ []) (some 15) (vs 0))) _) _=_;simp only[frm,h0];go_simp
   ·have h1:vs 1=pq b o:=hvs 1 (by decide) (by decide);clear hS hvs hlow hk hn;change Sem.run _ (execOp (Act.eval (Act.put (frm _ _ _ []) (some 16) (vs 1))) _) _=_;simp only[frm,h1];go_simp
   ·clear hS hvs hlow hk hn;change Sem.run _ (execOp (Act.eval (frm _ _ _ [])) _) _=_;simp only[frm];go_simp
   ·have h3:vs 3=pq b o:=hvs 3 (by decide) (by decide);clear hS hvs hlow hk hn;change Sem.run _ (execOp (Act.eval (Act.put (frm _ _ _ []) (some 18) (vs 3))) _) _=_;simp only[frm,h3];go_simp
   ·have h4:vs 4=pq b o:=hvs 4 (by decide) (by decide);clear hS hvs hlow hk hn;change Sem.run _ (execOp (Act.eval (Act.put (frm _ _ _ []) (some 19) (vs 4))) _) _=_;simp only[frm,h4];go_simp
   ·clear hS hvs hlow hk hn;change Sem.run _ (execOp (Act.eval (frm _ _ _ [])) _) _=_;simp only[frm];go_simp
   ·have h6:vs 6=pq b o:=hvs 6 (by decide) (by decide);clear hS hvs hlow hk hn;change Sem.run _ (execOp (Act.eval (Act.put (frm _ _ _ []) (some 21) (vs 6))) _) _=_;simp only[frm,h6];go_simp
   ·have h7:vs 7=pq b o:=hvs 7 (by decide) (by decide);clear hS hvs hlow hk hn;change Sem.run _ (execOp (Act.eval (Act.put (frm _ _ _ []) (some 22) (vs 7))) _) _=_;simp only[frm,h7];go_simp
   ·exact absurd (by decide) hn
   ·exact absurd (by decide) hn
   ·clear hS hvs hlow hk hn;change Sem.run _ (execOp (Act.eval (frm _ _ _ [])) _) _=_;simp only[frm];go_simp
  ·intro p hp o ho vs w1 hS hvs;rcases (show p=0 ∨ p=1 by change p < 2 at hp;omega) with rfl | rfl <;> cases ho
   ·replace hS:bw w5 w1:=hS;have h2:vs 2=.pointer (some ⟨b,o+2,none⟩):=hvs 2 (by decide) (by decide);have h5:vs 5=.pointer (some ⟨b,o+3,none⟩):=hvs 5 (by decide) (by decide);have h8:vs 8=.pointer (some ⟨b,o+4,none⟩):=hvs 8 (by decide) (by decide)
    show Made _ (fun v w1=>bw w5 w1∧∃ q,v=.slice (some ⟨q,0,none⟩) 3 3∧Bk w1 q 152 #[.pointer (some ⟨b,o+2,none⟩),.pointer (some ⟨b,o+3,none⟩),.pointer (some ⟨b,o+4,none⟩)]∧w5.heap.size≤q) _
    change Made _ _ (Sem.run _ (execOp (Act.eval (Act.put (Act.put (Act.put (frm _ _ _ []) (some 23) (vs 8)) (some 20) (vs 5)) (some 17) (vs 2))) _) _);simp only[frm,h2,h5,h8];have HB1:=lh hS;clear hS hvs h2 h5 h8;go_simp;exact qa5 ⟨HB1.o.alloc HB1.o.size _,_,rfl,Bk.new _ _ _,HB1.o.size⟩
   ·replace hS:(fun v w1=>bw w5 w1∧∃ q,v=.slice (some ⟨q,0,none⟩) 3 3∧Bk w1 q 152 #[.pointer (some ⟨b,o+2,none⟩),.pointer (some ⟨b,o+3,none⟩),.pointer (some ⟨b,o+4,none⟩)]∧w5.heap.size≤q) (vs 9) w1:=hS
    show Made _ (fun u w1=>(fun v u w1=>u=iv 3∧(fun v w1=>bw w5 w1∧∃ q,v=.slice (some ⟨q,0,none⟩) 3 3∧Bk w1 q 152 #[.pointer (some ⟨b,o+2,none⟩),.pointer (some ⟨b,o+3,none⟩),.pointer (some ⟨b,o+4,none⟩)]∧w5.heap.size≤q) v w1) (vs 9) u w1) _
    change Made _ _ (Sem.run _ (execOp (Act.eval (Act.put (frm _ _ _ []) (some 24) (vs 9))) _) _);obtain⟨hb1,q,hq,hbk,hqs⟩:=hS;rw[hq];simp only[frm,hq];have HB1:=lh (And.intro hb1 (And.intro hbk hqs));clear hvs hb1 hbk hqs hq;go_simp;exact qa5 (by first | exact⟨rfl,HB1.o.1,q,rfl,HB1.o.2.1,HB1.o.2.2⟩ | exact⟨rfl,HB1.o.1,HB1.o.2.1,HB1.o.2.2⟩ | exact⟨HB1.o.1,HB1.o.2.1,HB1.o.2.2⟩)
  ·intro vs w6 hS hvs;replace hS:(fun v u w1=>u=iv 3∧(fun v w1=>bw w5 w1∧∃ q,v=.slice (some ⟨q,0,none⟩) 3 3∧Bk w1 q 152 #[.pointer (some ⟨b,o+2,none⟩),.pointer (some ⟨b,o+3,none⟩),.pointer (some ⟨b,o+4,none⟩)]∧w5.heap.size≤q) v w1) (vs 9) (vs 10) w6:=hS;change wpList _ _ _ [] (Act.put (Act.put (Act.put (Act.put (Act.put (Act.put (Act.put (Act.put (Act.put (Act.put (Act.put (Act.put (frm _ _ _ []) (some 26) (vs 11)) (some 25) (vs 10)) (some 24) (vs 9)) (some 23) (vs 8)) (some 22) (vs 7)) (some 21) (vs 6)) (some 20) (vs 5)) (some 19) (vs 4)) (some 18) (vs 3)) (some 17) (vs 2)) (some 16) (vs 1)) (some 15) (vs 0)) _;have v11:vs 11=iv 0:=hvs 11 (by decide) (by decide);obtain⟨hv10,hb6,q,hv9,hbk6,hqs⟩:=hS;simp only[frm,v11,hv10,hv9];clear hvs v11 hv10 hv9;generalize vs 0=z0;generalize vs 1=z1;generalize vs 2=z2;generalize vs 3=z3;generalize vs 4=z4;generalize vs 5=z5;generalize vs 6=z6;generalize vs 7=z7;generalize vs 8=z8;have hF6:Fm E (fun k=>N k ∨ k=q) w6 s1_:=(HF5.o.below hb6).more hbk6 (by decide) (by decide);have hH6:Hd E (fun k=>N k ∨ k=q) t b pre post m w6 [iv y0_,iv y1_,.slice A0 x.stubs.length c0,.slice A1 x.scions.length c1,.slice A2 x.checks.length c2]:=(HH5.o.below hb6).up fun k h=>.inl h
   have hkp6:∀ {A c l},NdL m N w5 A c l→NdL m (fun k=>N k ∨ k=q) w6 A c l:=fun {A c l} h=>by
    refine NdL.up ?_ (fun k h=>.inl h)
    cases m with
    | true=>exact h.wr (qa0 ndC) (Kp.of_below hb6)
    | false=>exact h.rd (S:=fun _=>False) (qa0 ndC) (Kp.of_below hb6) (fun k h=>h.elim)
   obtain⟨sts,hsts⟩:∃ sts:Nat→Fs,sts=fun i=>([s1_,s2_,s3_,s4_]:List Fs).getD i s1_:=⟨_,rfl⟩
   obtain⟨Ls,hLs⟩:∃ Ls:Nat→Nat→List Nd,Ls=fun k i=>([if 0 < i then y2_ else x.stubs,if 1 < i then y3_ else x.scions,if 2 < i then y4_ else x.checks]:List (List Nd)).getD k []:=⟨_,rfl⟩
   have HI0:Hid (ClI E (fun k=>N k ∨ k=q) t b pre post m y0_ y1_ sts Ls A0 A1 A2 c0 c1 c2 w6 0 w6):=lh ⟨A0,c0,A1,c1,A2,c2,by rw[hsts];exact hF6,by rw[hLs];exact hH6,by rw[hLs];exact hkp6 HL5.o.1,by rw[hLs];exact hkp6 HL5.o.2.1,by rw[hLs];exact hkp6 HL5.o.2.2,fun _=>⟨rfl,rfl⟩,fun _=>⟨rfl,rfl⟩,fun _=>⟨rfl,rfl⟩,Fr.refl⟩;have HQK:Hid (Bk w6 q 152 #[.pointer (some ⟨b,o+2,none⟩),.pointer (some ⟨b,o+3,none⟩),.pointer (some ⟨b,o+4,none⟩)]∧w5.heap.size≤q∧bw w5 w6):=lh ⟨hbk6,hqs,hb6⟩;have hqg:m=false→q≠E.g:=fun h=>qk6 HF5.o hqs (by rw[HM.o.2.2.1];exact h);have hqb:q≠b:=by omega
   have HQN:=lh (And.intro hqg hqb);have HSL:=lh (And.intro hsts hLs);clear hF6 hH6 hkp6 hsts hLs hbk6 hqs hb6 hqg hqb hbz;simp only[Act.put,List.setIfInBounds_toArray,List.set_cons_succ,List.set_cons_zero]
   go_wp2_with fail
   go_loopw [26] (fun ix wr=>∃ i:Nat,ix=iv (i:Int)∧i≤3∧ClI E (fun k=>N k ∨ k=q) t b pre post m y0_ y1_ sts Ls A0 A1 A2 c0 c1 c2 w6 i wr) (fun ix _=>3 - (intOf ix).toNat)
   case atStart=>exact⟨0,rfl,by omega,HI0.o⟩
   case round =>
    clear HI0;obtain⟨i,rfl,hi,hcl⟩:=hrel;have HCL:=lh hcl;obtain⟨B0,d0,B1,d1,B2,d2,hFi,hHi,hn0,hn1,hn2,he0,he1,he2,hfr⟩:=hcl
    have hqk:Bk wr q 152 #[.pointer (some ⟨b,o+2,none⟩),.pointer (some ⟨b,o+3,none⟩),.pointer (some ⟨b,o+4,none⟩)]:=HQK.o.1.kp hfr (by
     unfold FrS
     split
     ·exact fun h=>h (.inr rfl)
     ·rename_i hmm
      exact fun h=>h.elim (HQN.o.1 (by simpa using hmm)) HQN.o.2)
    have HNI:=lh (And.intro hn0 (And.intro hn1 (And.intro hn2 (And.intro he0 (And.intro he1 (And.intro he2 hfr))))));have HFI:=lh (And.intro hFi hHi);clear hn0 hn1 hn2 he0 he1 he2 hfr hFi hHi
    by_cases hlt:i < 3
    ·rcases (show i=0 ∨ i=1 ∨ i=2 by omega) with rfl | rfl | rfl
     ·have e1:sts 0=s1_:=by rw[HSL.o.1];rfl
      have g0:Ls 0 0=x.stubs:=by rw[HSL.o.2];rfl
      have g1:Ls 1 0=x.scions:=by rw[HSL.o.2];rfl
      have g2:Ls 2 0=x.checks:=by rw[HSL.o.2];rfl
      have hF7:=HFI.o.1;have hH7:=HFI.o.2;rw[e1] at hF7;rw[g0,g1,g2] at hH7;have n0:=HNI.o.1;have n1:=HNI.o.2.1;have n2:=HNI.o.2.2.1;rw[g0] at n0;rw[g1] at n1;rw[g2] at n2;obtain⟨eA,eC⟩:=HNI.o.2.2.2.1 (by omega);have p0:cl wr q 0 (.pointer (some ⟨b,o+2,none⟩)):=hqk.cell 0;have cM:=lsNd_any (l:=x.stubs) (A:=B0) (c:=d0) (pre:=pre++[iv y0_,iv y1_]) (post:=[.slice B1 (x.scions).length d1,.slice B2 (x.checks).length d2]++post) (o:=o+2) hF7 (show NdL s1_.md (fun k=>N k ∨ k=q) wr B0 d0 x.stubs by rw[HM.o.2.2.1];exact n0) (show Hd E (fun k=>N k ∨ k=q) t b (pre++[iv y0_,iv y1_]) ([.slice B1 (x.scions).length d1,.slice B2 (x.checks).length d2]++post) s1_.md wr [.slice B0 (x.stubs).length d0] by rw[HM.o.2.2.1];exact Hd.sub (r1:=[iv y0_,iv y1_]) (r2:=[.slice B0 (x.stubs).length d0]) (r3:=[.slice B1 (x.scions).length d1,.slice B2 (x.checks).length d2]) hH7) (by rw[List.length_append,HO.o];rfl) (fun h=>by rw[eA,eC];exact(HZ.o (HM.o.2.2.1.symm.trans h)).1) (HX.o.2.2.1.2) (HFT.o.2.2.1.mono (by omega));rw[← HQ2.o,HM.o.2.2.1,← HGF.o] at cM
      try dsimp only at cM
      have H7:=lh (And.intro hF7 (And.intro hH7 (And.intro n0 (And.intro n1 n2))));clear hF7 hH7 n0 n1 n2 e1 g0 g1 g2 eA eC hqk
      go_wp2_with fail
      refine cM.mono ?_;rintro e w7 ⟨rfl,hF8,⟨C9,e9,hl8,hH8⟩,hfr8⟩;have hHH:Hd E (fun k=>N k ∨ k=q) t b pre post m w7 [iv y0_,iv y1_,.slice C9 (y2_).length e9,.slice B1 (x.scions).length d1,.slice B2 (x.checks).length d2]:=Hd.back (r1:=[iv y0_,iv y1_]) (r2:=[.slice B0 (x.stubs).length d0]) (r3:=[.slice B1 (x.scions).length d1,.slice B2 (x.checks).length d2]) (r2':=[.slice C9 (y2_).length e9]) H7.o.2.1 hfr8 rfl hH8;have hk0:=LsR.fr (qa0 ndC) H7.o.2.2.1 H7.o.1 HM.o.2.2.1 H7.o.2.1 hfr8 HT.o id (by decide) (by decide);have hk1:=LsR.fr (qa0 ndC) H7.o.2.2.2.1 H7.o.1 HM.o.2.2.1 H7.o.2.1 hfr8 HT.o id (by decide) (by decide);have hk2:=LsR.fr (qa0 ndC) H7.o.2.2.2.2 H7.o.1 HM.o.2.2.1 H7.o.2.1 hfr8 HT.o id (by decide) (by decide);have HN7:Hid (ClI E (fun k=>N k ∨ k=q) t b pre post m y0_ y1_ sts Ls A0 A1 A2 c0 c1 c2 w6 1 w7):=lh ⟨C9,e9,B1,d1,B2,d2,by rw[HSL.o.1];exact hF8,by rw[HSL.o.2];exact hHH,by rw[HSL.o.2];exact hl8,by rw[HSL.o.2];exact hk1,by rw[HSL.o.2];exact hk2,fun h=>absurd h (by omega),fun _=>HNI.o.2.2.2.2.1 (by omega),fun _=>HNI.o.2.2.2.2.2.1 (by omega),HNI.o.2.2.2.2.2.2.trans hfr8⟩;clear cM hF8 hH8 hfr8 hHH hk0 hk1 hk2 hl8 p0
      go_wp2_with fail
      go_roundw
      case rel=>exact⟨1,by go_num,by omega,HN7.o⟩
      case measure=>simp[intOf]
     ·have e1:sts 1=s2_:=by rw[HSL.o.1];rfl
      have g0:Ls 0 1=y2_:=by rw[HSL.o.2];rfl
      have g1:Ls 1 1=x.scions:=by rw[HSL.o.2];rfl
      have g2:Ls 2 1=x.checks:=by rw[HSL.o.2];rfl
      have hF7:=HFI.o.1;have hH7:=HFI.o.2;rw[e1] at hF7;rw[g0,g1,g2] at hH7;have n0:=HNI.o.1;have n1:=HNI.o.2.1;have n2:=HNI.o.2.2.1;rw[g0] at n0;rw[g1] at n1;rw[g2] at n2;obtain⟨eA,eC⟩:=HNI.o.2.2.2.2.1 (by omega);have p0:cl wr q 1 (.pointer (some ⟨b,o+3,none⟩)):=hqk.cell 1;have cM:=lsNd_any (l:=x.scions) (A:=B1) (c:=d1) (pre:=pre++[iv y0_,iv y1_,.slice B0 (y2_).length d0]) (post:=[.slice B2 (x.checks).length d2]++post) (o:=o+3) hF7 (show NdL s2_.md (fun k=>N k ∨ k=q) wr B1 d1 x.scions by rw[HM.o.2.2.2.1];exact n1) (show Hd E (fun k=>N k ∨ k=q) t b (pre++[iv y0_,iv y1_,.slice B0 (y2_).length d0]) ([.slice B2 (x.checks).length d2]++post) s2_.md wr [.slice B1 (x.scions).length d1] by rw[HM.o.2.2.2.1];exact Hd.sub (r1:=[iv y0_,iv y1_,.slice B0 (y2_).length d0]) (r2:=[.slice B1 (x.scions).length d1]) (r3:=[.slice B2 (x.checks).length d2]) hH7) (by rw[List.length_append,HO.o];rfl) (fun h=>by rw[eA,eC];exact(HZ.o (HM.o.2.2.2.1.symm.trans h)).2.1) (HX.o.2.2.2.1.2) (HFT.o.2.2.2.1.mono (by omega));rw[← HQ3.o,HM.o.2.2.2.1,← HGF.o] at cM
      try dsimp only at cM
      have H7:=lh (And.intro hF7 (And.intro hH7 (And.intro n0 (And.intro n1 n2))));clear hF7 hH7 n0 n1 n2 e1 g0 g1 g2 eA eC hqk
      go_wp2_with fail
      refine cM.mono ?_;rintro e w7 ⟨rfl,hF8,⟨C9,e9,hl8,hH8⟩,hfr8⟩;have hHH:Hd E (fun k=>N k ∨ k=q) t b pre post m w7 [iv y0_,iv y1_,.slice B0 (y2_).length d0,.slice C9 (y3_).length e9,.slice B2 (x.checks).length d2]:=Hd.back (r1:=[iv y0_,iv y1_,.slice B0 (y2_).length d0]) (r2:=[.slice B1 (x.scions).length d1]) (r3:=[.slice B2 (x.checks).length d2]) (r2':=[.slice C9 (y3_).length e9]) H7.o.2.1 hfr8 rfl hH8;have hk0:=LsR.fr (qa0 ndC) H7.o.2.2.1 H7.o.1 HM.o.2.2.2.1 H7.o.2.1 hfr8 HT.o id (by decide) (by decide);have hk1:=LsR.fr (qa0 ndC) H7.o.2.2.2.1 H7.o.1 HM.o.2.2.2.1 H7.o.2.1 hfr8 HT.o id (by decide) (by decide);have hk2:=LsR.fr (qa0 ndC) H7.o.2.2.2.2 H7.o.1 HM.o.2.2.2.1 H7.o.2.1 hfr8 HT.o id (by decide) (by decide);have HN7:Hid (ClI E (fun k=>N k ∨ k=q) t b pre post m y0_ y1_ sts Ls A0 A1 A2 c0 c1 c2 w6 2 w7):=lh ⟨B0,d0,C9,e9,B2,d2,by rw[HSL.o.1];exact hF8,by rw[HSL.o.2];exact hHH,by rw[HSL.o.2];exact hk0,by rw[HSL.o.2];exact hl8,by rw[HSL.o.2];exact hk2,fun h=>absurd h (by omega),fun h=>absurd h (by omega),fun _=>HNI.o.2.2.2.2.2.1 (by omega),HNI.o.2.2.2.2.2.2.trans hfr8⟩;clear cM hF8 hH8 hfr8 hHH hk0 hk1 hk2 hl8 p0
      go_wp2_with fail
      go_roundw
      case rel=>exact⟨2,by go_num,by omega,HN7.o⟩
      case measure=>simp[intOf]
     ·have e1:sts 2=s3_:=by rw[HSL.o.1];rfl
      have g0:Ls 0 2=y2_:=by rw[HSL.o.2];rfl
      have g1:Ls 1 2=y3_:=by rw[HSL.o.2];rfl
      have g2:Ls 2 2=x.checks:=by rw[HSL.o.2];rfl
      have hF7:=HFI.o.1;have hH7:=HFI.o.2;rw[e1] at hF7;rw[g0,g1,g2] at hH7;have n0:=HNI.o.1;have n1:=HNI.o.2.1;have n2:=HNI.o.2.2.1;rw[g0] at n0;rw[g1] at n1;rw[g2] at n2;obtain⟨eA,eC⟩:=HNI.o.2.2.2.2.2.1 (by omega);have p0:cl wr q 2 (.pointer (some ⟨b,o+4,none⟩)):=hqk.cell 2;have cM:=lsNd_any (l:=x.checks) (A:=B2) (c:=d2) (pre:=pre++[iv y0_,iv y1_,.slice B0 (y2_).length d0,.slice B1 (y3_).length d1]) (post:=[]++post) (o:=o+4) hF7 (show NdL s3_.md (fun k=>N k ∨ k=q) wr B2 d2 x.checks by rw[HM.o.2.2.2.2.1];exact n2) (show Hd E (fun k=>N k ∨ k=q) t b (pre++[iv y0_,iv y1_,.slice B0 (y2_).length d0,.slice B1 (y3_).length d1]) ([]++post) s3_.md wr [.slice B2 (x.checks).length d2] by rw[HM.o.2.2.2.2.1];exact Hd.sub (r1:=[iv y0_,iv y1_,.slice B0 (y2_).length d0,.slice B1 (y3_).length d1]) (r2:=[.slice B2 (x.checks).length d2]) (r3:=[]) hH7) (by rw[List.length_append,HO.o];rfl) (fun h=>by rw[eA,eC];exact(HZ.o (HM.o.2.2.2.2.1.symm.trans h)).2.2) (HX.o.2.2.2.2.2) (HFT.o.2.2.2.2.mono (by omega));rw[← HQ4.o,HM.o.2.2.2.2.1,← HGF.o] at cM
      try dsimp only at cM
      have H7:=lh (And.intro hF7 (And.intro hH7 (And.intro n0 (And.intro n1 n2))));clear hF7 hH7 n0 n1 n2 e1 g0 g1 g2 eA eC hqk
      go_wp2_with fail
      refine cM.mono ?_;rintro e w7 ⟨rfl,hF8,⟨C9,e9,hl8,hH8⟩,hfr8⟩;have hHH:Hd E (fun k=>N k ∨ k=q) t b pre post m w7 [iv y0_,iv y1_,.slice B0 (y2_).length d0,.slice B1 (y3_).length d1,.slice C9 (y4_).length e9]:=Hd.back (r1:=[iv y0_,iv y1_,.slice B0 (y2_).length d0,.slice B1 (y3_).length d1]) (r2:=[.slice B2 (x.checks).length d2]) (r3:=[]) (r2':=[.slice C9 (y4_).length e9]) H7.o.2.1 hfr8 rfl hH8;have hk0:=LsR.fr (qa0 ndC) H7.o.2.2.1 H7.o.1 HM.o.2.2.2.2.1 H7.o.2.1 hfr8 HT.o id (by decide) (by decide);have hk1:=LsR.fr (qa0 ndC) H7.o.2.2.2.1 H7.o.1 HM.o.2.2.2.2.1 H7.o.2.1 hfr8 HT.o id (by decide) (by decide);have hk2:=LsR.fr (qa0 ndC) H7.o.2.2.2.2 H7.o.1 HM.o.2.2.2.2.1 H7.o.2.1 hfr8 HT.o id (by decide) (by decide);have HN7:Hid (ClI E (fun k=>N k ∨ k=q) t b pre post m y0_ y1_ sts Ls A0 A1 A2 c0 c1 c2 w6 3 w7):=lh ⟨B0,d0,B1,d1,C9,e9,by rw[HSL.o.1];exact hF8,by rw[HSL.o.2];exact hHH,by rw[HSL.o.2];exact hk0,by rw[HSL.o.2];exact hk1,by rw[HSL.o.2];exact hl8,fun h=>absurd h (by omega),fun h=>absurd h (by omega),fun h=>absurd h (by omega),HNI.o.2.2.2.2.2.2.trans hfr8⟩;clear cM hF8 hH8 hfr8 hHH hk0 hk1 hk2 hl8 p0
      go_wp2_with fail
      go_roundw
      case rel=>exact⟨3,by go_num,by omega,HN7.o⟩
      case measure=>simp[intOf]
    ·have hi3:i=3:=by omega
     subst hi3;have e1:sts 3=s4_:=by rw[HSL.o.1];rfl
     have g0:Ls 0 3=y2_:=by rw[HSL.o.2];rfl
     have g1:Ls 1 3=y3_:=by rw[HSL.o.2];rfl
     have g2:Ls 2 3=y4_:=by rw[HSL.o.2];rfl
     have hF7:=HFI.o.1;have hH7:=HFI.o.2;rw[e1] at hF7;rw[g0,g1,g2] at hH7;have n0:=HNI.o.1;have n1:=HNI.o.2.1;have n2:=HNI.o.2.2.1;rw[g0] at n0;rw[g1] at n1;rw[g2] at n2;have hpp:Bk wr q 152 (([some ⟨b,o+2,none⟩,some ⟨b,o+3,none⟩,some ⟨b,o+4,none⟩]:List (Option Addr)).map Value.pointer).toArray:=hqk;have HE:=lh (And.intro (hF7.anti fun k h=>.inl h) (And.intro (hH7.down HNB.o) (And.intro (n0.down hpp) (And.intro (n1.down hpp) (And.intro (n2.down hpp) (HNI.o.2.2.2.2.2.2.down fun k h=>.inl h))))));clear hF7 hH7 n0 n1 n2 hpp e1 g0 g1 g2 hqk hi
     go_wp2_with fail
     go_end0
     exact⟨rfl,HE.o.1,⟨_,⟨_,_,_,_,_,_,rfl,HE.o.2.2.1,HE.o.2.2.2.1,HE.o.2.2.2.2.1⟩,HE.o.2.1⟩,(HFR5.o.trans (Fr.ofBelow HQK.o.2.2)).trans HE.o.2.2.2.2.2⟩
end
end
end Go.Proofs.YtmbnlccafcfbeaaGreatDoor
