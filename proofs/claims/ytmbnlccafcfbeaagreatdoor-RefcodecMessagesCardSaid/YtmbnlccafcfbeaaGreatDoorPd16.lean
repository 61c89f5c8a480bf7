/- Parts of the proof: RcE. -/
import Derived.Test.YtmbnlccafcfbeaaGreatDoorPdA
import Derived.Test.YtmbnlccafcfbeaaGreatDoorPd15
set_option linter.unusedVariables false
set_option linter.unusedSimpArgs false
set_option linter.unusedSectionVars false
set_option maxRecDepth 100000
namespace Go.Proofs.YtmbnlccafcfbeaaGreatDoor
section
open Go.RowKit
attribute [local go_sem] Oper.semAt_some
def PcR:Rel Pc:=fun m N w x r=>∃ A1 c1 A2 c2 A3 c3,r=[.int .u64 x.number,.int .i64 x.idm,.int .i64 x.ids,.int .i64 x.kind,.int .i64 x.cls,.slice A1 x.fields.length c1,.slice A2 x.mail.length c2,.slice A3 x.watches.length c3]∧LsR (flat rfC) 26 8 m N w A1 c1 x.fields∧LsR LtR 29 4 m N w A2 c2 x.mail∧LsR (flat waC) 65 12 m N w A3 c3 x.watches
def AnR:Rel An:=fun m N w x r=>∃ A1 c1,r=[.int .i64 x.machine,.int .i64 x.owner,.int .u64 x.number,.int .i64 x.epoch,.bool x.known,.bool x.rooted,.int .i64 x.last,.slice A1 x.inset.length c1]∧LsR (flat inC) 99 3 m N w A1 c1 x.inset
theorem stp_parcel {s s0_ s1_ s2_ s3_ s4_ s5_ s6_:Fs} {x:Pc} {y0_:Int} {y1_:Int × Int} {y2_:Int} {y3_:Int} {y4_:List Rf} {y5_:List Lt} {y6_:List Wa} (h0:(s0_,y0_)=stp encU Rd.u s x.number) (h1:(s1_,y1_)=stp encId decId s0_ (x.idm,x.ids)) (h2:(s2_,y2_)=stp encI Rd.i s1_ x.kind) (h3:(s3_,y3_)=stp encI Rd.i s2_ x.cls) (h4:(s4_,y4_)=stp (encL encRf) (Rd.list 1024 decRf) s3_ x.fields) (h5:(s5_,y5_)=stp (encL encLt) (Rd.list 1024 decLt) s4_ x.mail) (h6:(s6_,y6_)=stp (encL encWa) (Rd.list 1024 decWa) s5_ x.watches):stp encPc decPc s x=(s6_,(⟨y0_,y1_.1,y1_.2,y2_,y3_,y4_,y5_,y6_⟩:Pc)):=by
 cases s with
 | w l =>
  obtain⟨rfl,rfl⟩:=Prod.mk.inj h0
  obtain⟨rfl,rfl⟩:=Prod.mk.inj h1
  obtain⟨rfl,rfl⟩:=Prod.mk.inj h2
  obtain⟨rfl,rfl⟩:=Prod.mk.inj h3
  obtain⟨rfl,rfl⟩:=Prod.mk.inj h4
  obtain⟨rfl,rfl⟩:=Prod.mk.inj h5
  obtain⟨rfl,rfl⟩:=Prod.mk.inj h6
  simp[stp,encPc,encId,List.append_assoc]
 | r rd =>
  obtain⟨rfl,rfl⟩:=Prod.mk.inj h0
  obtain⟨rfl,rfl⟩:=Prod.mk.inj h1
  obtain⟨rfl,rfl⟩:=Prod.mk.inj h2
  obtain⟨rfl,rfl⟩:=Prod.mk.inj h3
  obtain⟨rfl,rfl⟩:=Prod.mk.inj h4
  obtain⟨rfl,rfl⟩:=Prod.mk.inj h5
  obtain⟨rfl,rfl⟩:=Prod.mk.inj h6
  rfl
section
variable {E:Env} {N:Nat→Prop} {t:TypeId} {b o:Nat} {pre post r:List Value} {w:World} {s:Fs} {x:Pc}
set_option maxHeartbeats 8000000 in
theorem parcel_any (hF:Fm E N w s) (hR:PcR s.md N w x r) (hH:Hd E N t b pre post s.md w r) (ho:pre.length=o) (hz:s.md=false→r=[.int .u64 0,.int .i64 0,.int .i64 0,.int .i64 0,.int .i64 0,.slice none 0 0,.slice none 0 0,.slice none 0 0]∧x=Pc.zero) (ht0:t≠26) (ht1:t≠29) (ht2:t≠65) (hx:pcP x) (hf:s.fit (encPc x).length):Calls Tryz.prog 54 #[.pointer (some ⟨E.gf,0,none⟩),.pointer (some ⟨b,o,none⟩)] w (CpP E N t b pre post (stp encPc decPc s x).1 s.md PcR (stp encPc decPc s x).2 w):=by
 obtain⟨A1,c1,A2,c2,A3,c3,rfl,hl_fields,hl_mail,hl_watches⟩:=hR
 obtain⟨gf,hgf⟩:∃ gf,gf=E.gf:=⟨_,rfl⟩
 obtain⟨m,hm⟩:∃ m,m=s.md:=⟨_,rfl⟩
 obtain⟨⟨s0_,y0_⟩,hq0⟩:∃ p,p=stp encU Rd.u s x.number:=⟨_,rfl⟩
 obtain⟨⟨s1_,y1_⟩,hq1⟩:∃ p,p=stp encId decId s0_ (x.idm,x.ids):=⟨_,rfl⟩
 obtain⟨⟨s2_,y2_⟩,hq2⟩:∃ p,p=stp encI Rd.i s1_ x.kind:=⟨_,rfl⟩
 obtain⟨⟨s3_,y3_⟩,hq3⟩:∃ p,p=stp encI Rd.i s2_ x.cls:=⟨_,rfl⟩
 obtain⟨⟨s4_,y4_⟩,hq4⟩:∃ p,p=stp (encL encRf) (Rd.list 1024 decRf) s3_ x.fields:=⟨_,rfl⟩
 obtain⟨⟨s5_,y5_⟩,hq5⟩:∃ p,p=stp (encL encLt) (Rd.list 1024 decLt) s4_ x.mail:=⟨_,rfl⟩
 obtain⟨⟨s6_,y6_⟩,hq6⟩:∃ p,p=stp (encL encWa) (Rd.list 1024 decWa) s5_ x.watches:=⟨_,rfl⟩
 rw[stp_parcel hq0 hq1 hq2 hq3 hq4 hq5 hq6]
 have hm0:s.md=m:=hm.symm
 have hm1:=md_next hq0 hm0
 have hm2:=md_next hq1 hm1
 have hm3:=md_next hq2 hm2
 have hm4:=md_next hq3 hm3
 have hm5:=md_next hq4 hm4
 have hm6:=md_next hq5 hm5
 have hm7:=md_next hq6 hm6
 have hf0:s.fit ((encU x.number).length+((encId (x.idm,x.ids)).length+((encI x.kind).length+((encI x.cls).length+(((encL encRf) x.fields).length+(((encL encLt) x.mail).length+(((encL encWa) x.watches).length+(0)))))))):=hf.mono (by unfold encPc;(try unfold encId);simp only[List.length_append];omega)
 have hf1:s0_.fit ((encId (x.idm,x.ids)).length+((encI x.kind).length+((encI x.cls).length+(((encL encRf) x.fields).length+(((encL encLt) x.mail).length+(((encL encWa) x.watches).length+(0))))))):=fit_next hq0 hf0
 have hf2:s1_.fit ((encI x.kind).length+((encI x.cls).length+(((encL encRf) x.fields).length+(((encL encLt) x.mail).length+(((encL encWa) x.watches).length+(0)))))):=fit_next hq1 hf1
 have hf3:s2_.fit ((encI x.cls).length+(((encL encRf) x.fields).length+(((encL encLt) x.mail).length+(((encL encWa) x.watches).length+(0))))):=fit_next hq2 hf2
 have hf4:s3_.fit (((encL encRf) x.fields).length+(((encL encLt) x.mail).length+(((encL encWa) x.watches).length+(0)))):=fit_next hq3 hf3
 have hf5:s4_.fit (((encL encLt) x.mail).length+(((encL encWa) x.watches).length+(0))):=fit_next hq4 hf4
 have hf6:s5_.fit (((encL encWa) x.watches).length+(0)):=fit_next hq5 hf5
 have hf7:s6_.fit (0):=fit_next hq6 hf6
 have HZ_fields:Hid (s.md=false→A1=none∧c1=0∧x.fields=[]):=lh fun h=>by
  obtain⟨h1,h2⟩:=hz h
  subst h2
  simp only[List.cons.injEq,Value.slice.injEq] at h1
  simp[h1,Pc.zero]
 have HZ_mail:Hid (s.md=false→A2=none∧c2=0∧x.mail=[]):=lh fun h=>by
  obtain⟨h1,h2⟩:=hz h
  subst h2
  simp only[List.cons.injEq,Value.slice.injEq] at h1
  simp[h1,Pc.zero]
 have HZ_watches:Hid (s.md=false→A3=none∧c3=0∧x.watches=[]):=lh fun h=>by
  obtain⟨h1,h2⟩:=hz h
  subst h2
  simp only[List.cons.injEq,Value.slice.injEq] at h1
  simp[h1,Pc.zero]
 have HM0:=lh hm0
 have HFT0:=lh hf0
 have HM1:=lh hm1
 have HFT1:=lh hf1
 have HM2:=lh hm2
 have HFT2:=lh hf2
 have HM3:=lh hm3
 have HFT3:=lh hf3
 have HM4:=lh hm4
 have HFT4:=lh hf4
 have HM5:=lh hm5
 have HFT5:=lh hf5
 have HM6:=lh hm6
 have HFT6:=lh hf6
 have HM7:=lh hm7
 have HFT7:=lh hf7
 have HQ0:=lh hq0
 have HQ1:=lh hq1
 have HQ2:=lh hq2
 have HQ3:=lh hq3
 have HQ4:=lh hq4
 have HQ5:=lh hq5
 have HQ6:=lh hq6
 have HX:=lh hx
 have HO:=lh ho
 have HGF:=lh hgf
 have HT:=lh (And.intro ht0 (And.intro ht1 ht2))
 rw[← hgf,← hm]
 rw[← hm] at hH hl_fields hl_mail hl_watches
 have HBL:Hid (b < w.heap.size):=lh (hH.lt (by simp))
 have HF:=lh hF
 have HH:=lh hH
 have HL_fields:=lh hl_fields
 have HL_mail:=lh hl_mail
 have HL_watches:=lh hl_watches
 clear hgf hm hF hH ho hx hf hz hl_fields hl_mail hl_watches ht0 ht1 ht2 hq0 hq1 hq2 hq3 hq4 hq5 hq6 hm0 hf0 hm1 hf1 hm2 hf2 hm3 hf3 hm4 hf4 hm5 hf5 hm6 hf6 hm7 hf7
 go_enter Tryz.func54,Tryz.ntmps54
 have cM0:=Num_any (x:=x.number) (pre:=pre++[]) (post:=[.int .i64 x.idm,.int .i64 x.ids,.int .i64 x.kind,.int .i64 x.cls,.slice A1 x.fields.length c1,.slice A2 x.mail.length c2,.slice A3 x.watches.length c3]++post) (o:=o+0) HF.out (show Hd E N t b (pre++[]) ([.int .i64 x.idm,.int .i64 x.ids,.int .i64 x.kind,.int .i64 x.cls,.slice A1 x.fields.length c1,.slice A2 x.mail.length c2,.slice A3 x.watches.length c3]++post) s.md w [.int .u64 x.number] by rw[HM0.out];exact Hd.sub (r1:=[]) (r2:=[.int .u64 x.number]) (r3:=[.int .i64 x.idm,.int .i64 x.ids,.int .i64 x.kind,.int .i64 x.cls,.slice A1 x.fields.length c1,.slice A2 x.mail.length c2,.slice A3 x.watches.length c3]) HH.out) (by rw[List.length_append,HO.out];rfl) (HX.out.1) (HFT0.out.mono (by omega))
 rw[← HQ0.out,HM0.out,← HGF.out] at cM0
 try dsimp only at cM0
 go_wp2_with fail
 refine cM0.mono ?_
 rintro e u0_ ⟨rfl,hF5,hH5,hfr5⟩
 have hHH:Hd E N t b pre post m u0_ [.int .u64 y0_,.int .i64 x.idm,.int .i64 x.ids,.int .i64 x.kind,.int .i64 x.cls,.slice A1 x.fields.length c1,.slice A2 x.mail.length c2,.slice A3 x.watches.length c3]:=Hd.back (r1:=[]) (r2:=[.int .u64 x.number]) (r3:=[.int .i64 x.idm,.int .i64 x.ids,.int .i64 x.kind,.int .i64 x.cls,.slice A1 x.fields.length c1,.slice A2 x.mail.length c2,.slice A3 x.watches.length c3]) (r2':=[.int .u64 y0_]) HH.out hfr5 rfl hH5
 have HL0_fields:=lh (LsR.fr (flat_rk rfC) HL_fields.out HF.out HM0.out HH.out hfr5 HT.out.1 (id) (by decide) (by decide))
 have HL0_mail:=lh (LsR.fr ltR_rk HL_mail.out HF.out HM0.out HH.out hfr5 HT.out.2.1 (HT.out.1) (by decide) (by show ¬ (_:TypeId)=_;decide))
 have HL0_watches:=lh (LsR.fr (flat_rk waC) HL_watches.out HF.out HM0.out HH.out hfr5 HT.out.2.2 (id) (by decide) (by decide))
 have HF0_:=lh hF5
 have HH0_:=lh hHH
 have HFR0_:=lh hfr5
 clear cM0 hF5 hH5 hfr5 hHH
 have cM1:=id_any (x:=(x.idm,x.ids)) (pre:=pre++[.int .u64 y0_]) (post:=[.int .i64 x.kind,.int .i64 x.cls,.slice A1 x.fields.length c1,.slice A2 x.mail.length c2,.slice A3 x.watches.length c3]++post) (o:=o+1) HF0_.out (show Hd E N t b (pre++[.int .u64 y0_]) ([.int .i64 x.kind,.int .i64 x.cls,.slice A1 x.fields.length c1,.slice A2 x.mail.length c2,.slice A3 x.watches.length c3]++post) s0_.md u0_ [.int .i64 x.idm,.int .i64 x.ids] by rw[HM1.out];exact Hd.sub (r1:=[.int .u64 y0_]) (r2:=[.int .i64 x.idm,.int .i64 x.ids]) (r3:=[.int .i64 x.kind,.int .i64 x.cls,.slice A1 x.fields.length c1,.slice A2 x.mail.length c2,.slice A3 x.watches.length c3]) HH0_.out) (by rw[List.length_append,HO.out];rfl) (⟨HX.out.2.1,HX.out.2.2.1⟩) (HFT1.out.mono (by omega))
 rw[← HQ1.out,HM1.out,← HGF.out] at cM1
 try dsimp only at cM1
 go_wp2_with fail
 refine cM1.mono ?_
 rintro e u1_ ⟨rfl,hF5,hH5,hfr5⟩
 have hHH:Hd E N t b pre post m u1_ [.int .u64 y0_,.int .i64 y1_.1,.int .i64 y1_.2,.int .i64 x.kind,.int .i64 x.cls,.slice A1 x.fields.length c1,.slice A2 x.mail.length c2,.slice A3 x.watches.length c3]:=Hd.back (r1:=[.int .u64 y0_]) (r2:=[.int .i64 x.idm,.int .i64 x.ids]) (r3:=[.int .i64 x.kind,.int .i64 x.cls,.slice A1 x.fields.length c1,.slice A2 x.mail.length c2,.slice A3 x.watches.length c3]) (r2':=[.int .i64 y1_.1,.int .i64 y1_.2]) HH0_.out hfr5 rfl hH5
 have HL1_fields:=lh (LsR.fr (flat_rk rfC) HL0_fields.out HF0_.out HM1.out HH0_.out hfr5 HT.out.1 (id) (by decide) (by decide))
 have HL1_mail:=lh (LsR.fr ltR_rk HL0_mail.out HF0_.out HM1.out HH0_.out hfr5 HT.out.2.1 (HT.out.1) (by decide) (by show ¬ (_:TypeId)=_;decide))
 have HL1_watches:=lh (LsR.fr (flat_rk waC) HL0_watches.out HF0_.out HM1.out HH0_.out hfr5 HT.out.2.2 (id) (by decide) (by decide))
 have HF1_:=lh hF5
 have HH1_:=lh hHH
 have HFR1_:=lh (HFR0_.out.trans hfr5)
 clear cM1 hF5 hH5 hfr5 hHH
 go_wp2_with fail
 refine wp_seq 9 (fun i=>([[],[],[1],[2],[],[4],[5],[3,6],[0,7]]:List (List Nat)).getD i []) [7,8] (fun i=>([1,0,0,0,0,0,0,0,0]:List Nat).getD i 0) (fun zz=>([.pointer (some ⟨gf,0,none⟩),.pointer (some ⟨b,o,none⟩),.pointer (some ⟨b,o,none⟩),.pointer (some ⟨b,o+3,none⟩),.pointer (some ⟨b,o,none⟩),.pointer (some ⟨b,o,none⟩),.pointer (some ⟨b,o+4,none⟩),.bool false,.bool false]:List Value).getD zz (.bool false)) (CmS (Below u1_.heap.size u1_) (fun v w1=>Below u1_.heap.size u1_ w1∧∃ q,v=.slice (some ⟨q,0,none⟩) 2 2∧Bk w1 q 105 #[.pointer (some ⟨b,o+3,none⟩),.pointer (some ⟨b,o+4,none⟩)]∧u1_.heap.size≤q) (fun w1=>StP E N t b pre post (stpN s1_ [x.kind,x.cls] 2).1 s1_.md (updI [.int .u64 y0_,.int .i64 y1_.1,.int .i64 y1_.2,.int .i64 x.kind,.int .i64 x.cls,.slice A1 x.fields.length c1,.slice A2 x.mail.length c2,.slice A3 x.watches.length c3] [3,4] (stpN s1_ [x.kind,x.cls] 2).2) u1_ (.returned (.tuple #[])) w1)) rfl (by kernel_rfl) (by rfl) (by kernel_rfl) ?_ ?_ ?_ ?_
 ·exact(Below.refl _ _).drew
 ·intro zi hzi hn zo ho k vs w1 hk hlow hS hvs
  rcases (show zi=0 ∨ zi=1 ∨ zi=2 ∨ zi=3 ∨ zi=4 ∨ zi=5 ∨ zi=6 ∨ zi=7 ∨ zi=8 by omega) with rfl | rfl | rfl | rfl | rfl | rfl | rfl | rfl | rfl <;> cases ho
  ·clear hS hvs hlow hk hn
   change Sem.run _ (execOp (Act.eval (frm _ _ _ [])) _) _=_
   simp only[frm]
   go_simp
  ·clear hS hvs hlow hk hn
   change Sem.run _ (execOp (Act.eval (frm _ _ _ [])) _) _=_
   simp only[frm]
   go_simp
  ·have h1:vs 1=.pointer (some ⟨b,o,none⟩):=hvs 1 (by decide) (by decide)
   clear hS hvs hlow hk hn
   change Sem.run _ (execOp (Act.eval (Act.put (frm _ _ _ []) (some 15) (vs 1))) _) _=_
   simp only[frm,h1]
   go_simp
  ·have h2:vs 2=.pointer (some ⟨b,o,none⟩):=hvs 2 (by decide) (by decide)
   clear hS hvs hlow hk hn
   change Sem.run _ (execOp (Act.eval (Act.put (frm _ _ _ []) (some 16) (vs 2))) _) _=_
   simp only[frm,h2]
   go_simp
  ·clear hS hvs hlow hk hn
   change Sem.run _ (execOp (Act.eval (frm _ _ _ [])) _) _=_
   simp only[frm]
   go_simp
  ·have h4:vs 4=.pointer (some ⟨b,o,none⟩):=hvs 4 (by decide) (by decide)
   clear hS hvs hlow hk hn
   change Sem.run _ (execOp (Act.eval (Act.put (frm _ _ _ []) (some 18) (vs 4))) _) _=_
   simp only[frm,h4]
   go_simp
  ·have h5:vs 5=.pointer (some ⟨b,o,none⟩):=hvs 5 (by decide) (by decide)
   clear hS hvs hlow hk hn
   change Sem.run _ (execOp (Act.eval (Act.put (frm _ _ _ []) (some 19) (vs 5))) _) _=_
   simp only[frm,h5]
   go_simp
  ·exact absurd (by decide) hn
  ·exact absurd (by decide) hn
 ·intro p hp o ho vs w1 hS hvs
  rcases (show p=0 ∨ p=1 by change p < 2 at hp;omega) with rfl | rfl <;> cases ho
  ·replace hS:Below u1_.heap.size u1_ w1:=hS
   have h3:vs 3=.pointer (some ⟨b,o+3,none⟩):=hvs 3 (by decide) (by decide)
   have h6:vs 6=.pointer (some ⟨b,o+4,none⟩):=hvs 6 (by decide) (by decide)
   show Made _ (fun v w1=>Below u1_.heap.size u1_ w1∧∃ q,v=.slice (some ⟨q,0,none⟩) 2 2∧Bk w1 q 105 #[.pointer (some ⟨b,o+3,none⟩),.pointer (some ⟨b,o+4,none⟩)]∧u1_.heap.size≤q) _
   change Made _ _ (Sem.run _ (execOp (Act.eval (Act.put (Act.put (frm _ _ _ []) (some 20) (vs 6)) (some 17) (vs 3))) _) _)
   simp only[frm,h3,h6]
   have HB1:=lh hS
   clear hS hvs h3 h6
   go_simp
   exact made_ok ⟨HB1.out.alloc HB1.out.size _,_,rfl,Bk.new _ _ _,HB1.out.size⟩
  ·replace hS:(fun v w1=>Below u1_.heap.size u1_ w1∧∃ q,v=.slice (some ⟨q,0,none⟩) 2 2∧Bk w1 q 105 #[.pointer (some ⟨b,o+3,none⟩),.pointer (some ⟨b,o+4,none⟩)]∧u1_.heap.size≤q) (vs 7) w1:=hS
   have h0:vs 0=.pointer (some ⟨gf,0,none⟩):=hvs 0 (by decide) (by decide)
   show Made _ (fun _=>fun w1=>StP E N t b pre post (stpN s1_ [x.kind,x.cls] 2).1 s1_.md (updI [.int .u64 y0_,.int .i64 y1_.1,.int .i64 y1_.2,.int .i64 x.kind,.int .i64 x.cls,.slice A1 x.fields.length c1,.slice A2 x.mail.length c2,.slice A3 x.watches.length c3] [3,4] (stpN s1_ [x.kind,x.cls] 2).2) u1_ (.returned (.tuple #[])) w1) _
   change Made _ _ (Sem.run _ (execOp (Act.eval (Act.put (Act.put (frm _ _ _ []) (some 21) (vs 7)) (some 14) (vs 0))) _) _)
   obtain⟨hb1,q,hq,hbk,hqs⟩:=hS
   simp only[frm,h0,hq]
   have cM:=small_any (pre:=pre) (post:=post) (js:=[3,4]) (xs:=[x.kind,x.cls]) (HF1_.out.below hb1) ((show Hd E N t b pre post s1_.md u1_ _ by rw[HM2.out];exact HH1_.out).below hb1) HO.out (show Bk w1 q 105 ([3,4].map fun j=>Value.pointer (some ⟨b,o+j,none⟩)).toArray from hbk) (by have:=HBL.out;have:=Kp.size HFR1_.out;omega) (nreader HF1_.out (by omega)) rfl (by decide) (idx2 rfl rfl) (by simp only[List.mem_cons,List.not_mem_nil,or_false,forall_eq_or_imp,forall_eq];exact⟨HX.out.2.2.2.1,HX.out.2.2.2.2.1⟩) (HFT2.out.mono (by unfold encIs;simp only[List.flatMap_cons,List.flatMap_nil,List.length_append,List.length_nil];omega)) (by decide)
   rw[← HGF.out] at cM
   have HB1:=lh hb1
   clear hvs hbk hq hqs hb1 h0
   go_simp
   exact made_call (cM.mono fun e w2 ⟨he,h1,h2,h3⟩=>⟨_,he,rfl,h1,h2,(Fr.ofBelow HB1.out).trans h3⟩)
 ·intro vs w5 hS hvs
  replace hS:(fun w1=>StP E N t b pre post (stpN s1_ [x.kind,x.cls] 2).1 s1_.md (updI [.int .u64 y0_,.int .i64 y1_.1,.int .i64 y1_.2,.int .i64 x.kind,.int .i64 x.cls,.slice A1 x.fields.length c1,.slice A2 x.mail.length c2,.slice A3 x.watches.length c3] [3,4] (stpN s1_ [x.kind,x.cls] 2).2) u1_ (.returned (.tuple #[])) w1) w5:=hS
  change wpList _ _ _ [] (Act.put (Act.put (Act.put (Act.put (Act.put (Act.put (Act.put (Act.put (Act.put (frm _ _ _ []) (some 22) (vs 8)) (some 21) (vs 7)) (some 20) (vs 6)) (some 19) (vs 5)) (some 18) (vs 4)) (some 17) (vs 3)) (some 16) (vs 2)) (some 15) (vs 1)) (some 14) (vs 0)) _
  simp only[frm]
  clear hvs
  generalize vs 0=z0
  generalize vs 1=z1
  generalize vs 2=z2
  generalize vs 3=z3
  generalize vs 4=z4
  generalize vs 5=z5
  generalize vs 6=z6
  generalize vs 7=z7
  generalize vs 8=z8
  obtain⟨_,hF5,hH5,hfr5⟩:=hS
  rw[stpN2 HQ2.out HQ3.out] at hF5 hH5
  rw[HM2.out] at hH5 hfr5
  replace hH5:Hd E N t b pre post m w5 [.int .u64 y0_,.int .i64 y1_.1,.int .i64 y1_.2,.int .i64 y2_,.int .i64 y3_,.slice A1 x.fields.length c1,.slice A2 x.mail.length c2,.slice A3 x.watches.length c3]:=hH5
  replace hF5:Fm E N w5 s3_:=hF5
  have HL2_fields:=lh (LsR.fr (flat_rk rfC) HL1_fields.out HF1_.out HM2.out HH1_.out hfr5 HT.out.1 (id) (by decide) (by decide))
  have HL2_mail:=lh (LsR.fr ltR_rk HL1_mail.out HF1_.out HM2.out HH1_.out hfr5 HT.out.2.1 (HT.out.1) (by decide) (by show ¬ (_:TypeId)=_;decide))
  have HL2_watches:=lh (LsR.fr (flat_rk waC) HL1_watches.out HF1_.out HM2.out HH1_.out hfr5 HT.out.2.2 (id) (by decide) (by decide))
  have HF2_:=lh hF5
  have HH2_:=lh hH5
  have HFR2_:=lh (HFR1_.out.trans hfr5)
  clear hF5 hH5 hfr5
  have cM3:=refs_any (l:=x.fields) (A:=A1) (c:=c1) (pre:=pre++[.int .u64 y0_,.int .i64 y1_.1,.int .i64 y1_.2,.int .i64 y2_,.int .i64 y3_]) (post:=[.slice A2 x.mail.length c2,.slice A3 x.watches.length c3]++post) (o:=o+5) HF2_.out (show LsR (flat rfC) 26 8 s3_.md N w5 A1 c1 x.fields by rw[HM4.out];exact HL2_fields.out) (show Hd E N t b (pre++[.int .u64 y0_,.int .i64 y1_.1,.int .i64 y1_.2,.int .i64 y2_,.int .i64 y3_]) ([.slice A2 x.mail.length c2,.slice A3 x.watches.length c3]++post) s3_.md w5 [.slice A1 x.fields.length c1] by rw[HM4.out];exact Hd.sub (r1:=[.int .u64 y0_,.int .i64 y1_.1,.int .i64 y1_.2,.int .i64 y2_,.int .i64 y3_]) (r2:=[.slice A1 x.fields.length c1]) (r3:=[.slice A2 x.mail.length c2,.slice A3 x.watches.length c3]) HH2_.out) (by rw[List.length_append,HO.out];rfl) (fun h=>HZ_fields.out (by rw[HM0.out];rw[HM4.out] at h;exact h))  (HX.out.2.2.2.2.2.1.2) (HFT4.out.mono (by omega))
  rw[← HQ4.out,HM4.out,← HGF.out] at cM3
  try dsimp only at cM3
  go_wp2_with fail
  refine cM3.mono ?_
  rintro e u3_ ⟨rfl,hF5,⟨A3_,c3_,hl5,hH5⟩,hfr5⟩
  have hHH:Hd E N t b pre post m u3_ [.int .u64 y0_,.int .i64 y1_.1,.int .i64 y1_.2,.int .i64 y2_,.int .i64 y3_,.slice A3_ y4_.length c3_,.slice A2 x.mail.length c2,.slice A3 x.watches.length c3]:=Hd.back (r1:=[.int .u64 y0_,.int .i64 y1_.1,.int .i64 y1_.2,.int .i64 y2_,.int .i64 y3_]) (r2:=[.slice A1 x.fields.length c1]) (r3:=[.slice A2 x.mail.length c2,.slice A3 x.watches.length c3]) (r2':=[.slice A3_ y4_.length c3_]) HH2_.out hfr5 rfl hH5
  have HL3_mail:=lh (LsR.fr ltR_rk HL2_mail.out HF2_.out HM4.out HH2_.out hfr5 HT.out.2.1 (HT.out.1) (by decide) (by show ¬ (_:TypeId)=_;decide))
  have HL3_watches:=lh (LsR.fr (flat_rk waC) HL2_watches.out HF2_.out HM4.out HH2_.out hfr5 HT.out.2.2 (id) (by decide) (by decide))
  have HL3_fields:=lh hl5
  have HF3_:=lh hF5
  have HH3_:=lh hHH
  have HFR3_:=lh (HFR2_.out.trans hfr5)
  clear cM3 hF5 hH5 hfr5 hHH hl5
  have cM4:=lsLt_any (l:=x.mail) (A:=A2) (c:=c2) (pre:=pre++[.int .u64 y0_,.int .i64 y1_.1,.int .i64 y1_.2,.int .i64 y2_,.int .i64 y3_,.slice A3_ y4_.length c3_]) (post:=[.slice A3 x.watches.length c3]++post) (o:=o+6) HF3_.out (show LsR LtR 29 4 s4_.md N u3_ A2 c2 x.mail by rw[HM5.out];exact HL3_mail.out) (show Hd E N t b (pre++[.int .u64 y0_,.int .i64 y1_.1,.int .i64 y1_.2,.int .i64 y2_,.int .i64 y3_,.slice A3_ y4_.length c3_]) ([.slice A3 x.watches.length c3]++post) s4_.md u3_ [.slice A2 x.mail.length c2] by rw[HM5.out];exact Hd.sub (r1:=[.int .u64 y0_,.int .i64 y1_.1,.int .i64 y1_.2,.int .i64 y2_,.int .i64 y3_,.slice A3_ y4_.length c3_]) (r2:=[.slice A2 x.mail.length c2]) (r3:=[.slice A3 x.watches.length c3]) HH3_.out) (by rw[List.length_append,HO.out];rfl) (fun h=>HZ_mail.out (by rw[HM0.out];rw[HM5.out] at h;exact h)) HT.out.1 (HX.out.2.2.2.2.2.2.1.2) (HFT5.out.mono (by omega))
  rw[← HQ5.out,HM5.out,← HGF.out] at cM4
  try dsimp only at cM4
  go_wp2_with fail
  refine cM4.mono ?_
  rintro e u4_ ⟨rfl,hF5,⟨A4_,c4_,hl5,hH5⟩,hfr5⟩
  have hHH:Hd E N t b pre post m u4_ [.int .u64 y0_,.int .i64 y1_.1,.int .i64 y1_.2,.int .i64 y2_,.int .i64 y3_,.slice A3_ y4_.length c3_,.slice A4_ y5_.length c4_,.slice A3 x.watches.length c3]:=Hd.back (r1:=[.int .u64 y0_,.int .i64 y1_.1,.int .i64 y1_.2,.int .i64 y2_,.int .i64 y3_,.slice A3_ y4_.length c3_]) (r2:=[.slice A2 x.mail.length c2]) (r3:=[.slice A3 x.watches.length c3]) (r2':=[.slice A4_ y5_.length c4_]) HH3_.out hfr5 rfl hH5
  have HL4_fields:=lh (LsR.fr (flat_rk rfC) HL3_fields.out HF3_.out HM5.out HH3_.out hfr5 HT.out.1 (id) (by decide) (by decide))
  have HL4_watches:=lh (LsR.fr (flat_rk waC) HL3_watches.out HF3_.out HM5.out HH3_.out hfr5 HT.out.2.2 (id) (by decide) (by decide))
  have HL4_mail:=lh hl5
  have HF4_:=lh hF5
  have HH4_:=lh hHH
  have HFR4_:=lh (HFR3_.out.trans hfr5)
  clear cM4 hF5 hH5 hfr5 hHH hl5
  have cM5:=lsWa_any (l:=x.watches) (A:=A3) (c:=c3) (pre:=pre++[.int .u64 y0_,.int .i64 y1_.1,.int .i64 y1_.2,.int .i64 y2_,.int .i64 y3_,.slice A3_ y4_.length c3_,.slice A4_ y5_.length c4_]) (post:=[]++post) (o:=o+7) HF4_.out (show LsR (flat waC) 65 12 s5_.md N u4_ A3 c3 x.watches by rw[HM6.out];exact HL4_watches.out) (show Hd E N t b (pre++[.int .u64 y0_,.int .i64 y1_.1,.int .i64 y1_.2,.int .i64 y2_,.int .i64 y3_,.slice A3_ y4_.length c3_,.slice A4_ y5_.length c4_]) ([]++post) s5_.md u4_ [.slice A3 x.watches.length c3] by rw[HM6.out];exact Hd.sub (r1:=[.int .u64 y0_,.int .i64 y1_.1,.int .i64 y1_.2,.int .i64 y2_,.int .i64 y3_,.slice A3_ y4_.length c3_,.slice A4_ y5_.length c4_]) (r2:=[.slice A3 x.watches.length c3]) (r3:=[]) HH4_.out) (by rw[List.length_append,HO.out];rfl) (fun h=>HZ_watches.out (by rw[HM0.out];rw[HM6.out] at h;exact h))  (HX.out.2.2.2.2.2.2.2.2) (HFT6.out.mono (by omega))
  rw[← HQ6.out,HM6.out,← HGF.out] at cM5
  try dsimp only at cM5
  go_wp2_with fail
  refine cM5.mono ?_
  rintro e u5_ ⟨rfl,hF5,⟨A5_,c5_,hl5,hH5⟩,hfr5⟩
  have hHH:Hd E N t b pre post m u5_ [.int .u64 y0_,.int .i64 y1_.1,.int .i64 y1_.2,.int .i64 y2_,.int .i64 y3_,.slice A3_ y4_.length c3_,.slice A4_ y5_.length c4_,.slice A5_ y6_.length c5_]:=Hd.back (r1:=[.int .u64 y0_,.int .i64 y1_.1,.int .i64 y1_.2,.int .i64 y2_,.int .i64 y3_,.slice A3_ y4_.length c3_,.slice A4_ y5_.length c4_]) (r2:=[.slice A3 x.watches.length c3]) (r3:=[]) (r2':=[.slice A5_ y6_.length c5_]) HH4_.out hfr5 rfl hH5
  have HL5_fields:=lh (LsR.fr (flat_rk rfC) HL4_fields.out HF4_.out HM6.out HH4_.out hfr5 HT.out.1 (id) (by decide) (by decide))
  have HL5_mail:=lh (LsR.fr ltR_rk HL4_mail.out HF4_.out HM6.out HH4_.out hfr5 HT.out.2.1 (HT.out.1) (by decide) (by show ¬ (_:TypeId)=_;decide))
  have HL5_watches:=lh hl5
  have HF5_:=lh hF5
  have HH5_:=lh hHH
  have HFR5_:=lh (HFR4_.out.trans hfr5)
  clear cM5 hF5 hH5 hfr5 hHH hl5
  go_wp2_with fail
  go_end0
  exact⟨rfl,HF5_.out,⟨_,⟨_,_,_,_,_,_,rfl,HL5_fields.out,HL5_mail.out,HL5_watches.out⟩,HH5_.out⟩,HFR5_.out⟩
end
theorem stp_answer {s s0_ s1_ s2_ s3_ s4_ s5_ s6_ s7_:Fs} {x:An} {y0_:Int} {y1_:Int} {y2_:Int} {y3_:Int} {y4_:Int} {y5_:Bool} {y6_:Bool} {y7_:List In} (h0:(s0_,y0_)=stp encI Rd.i s x.machine) (h1:(s1_,y1_)=stp encI Rd.i s0_ x.owner) (h2:(s2_,y2_)=stp encI Rd.i s1_ x.epoch) (h3:(s3_,y3_)=stp encI Rd.i s2_ x.last) (h4:(s4_,y4_)=stp encU Rd.u s3_ x.number) (h5:(s5_,y5_)=stp encB Rd.bool s4_ x.known) (h6:(s6_,y6_)=stp encB Rd.bool s5_ x.rooted) (h7:(s7_,y7_)=stp (encL encIn) (Rd.list 1024 decIn) s6_ x.inset):stp encAn decAn s x=(s7_,(⟨y0_,y1_,y4_,y2_,y5_,y6_,y3_,y7_⟩:An)):=by
 cases s with
 | w l =>
  obtain⟨rfl,rfl⟩:=Prod.mk.inj h0
  obtain⟨rfl,rfl⟩:=Prod.mk.inj h1
  obtain⟨rfl,rfl⟩:=Prod.mk.inj h2
  obtain⟨rfl,rfl⟩:=Prod.mk.inj h3
  obtain⟨rfl,rfl⟩:=Prod.mk.inj h4
  obtain⟨rfl,rfl⟩:=Prod.mk.inj h5
  obtain⟨rfl,rfl⟩:=Prod.mk.inj h6
  obtain⟨rfl,rfl⟩:=Prod.mk.inj h7
  simp[stp,encAn,encId,List.append_assoc]
 | r rd =>
  obtain⟨rfl,rfl⟩:=Prod.mk.inj h0
  obtain⟨rfl,rfl⟩:=Prod.mk.inj h1
  obtain⟨rfl,rfl⟩:=Prod.mk.inj h2
  obtain⟨rfl,rfl⟩:=Prod.mk.inj h3
  obtain⟨rfl,rfl⟩:=Prod.mk.inj h4
  obtain⟨rfl,rfl⟩:=Prod.mk.inj h5
  obtain⟨rfl,rfl⟩:=Prod.mk.inj h6
  obtain⟨rfl,rfl⟩:=Prod.mk.inj h7
  rfl
section
variable {E:Env} {N:Nat→Prop} {t:TypeId} {b o:Nat} {pre post r:List Value} {w:World} {s:Fs} {x:An}
set_option maxHeartbeats 8000000 in
theorem answer_any (hF:Fm E N w s) (hR:AnR s.md N w x r) (hH:Hd E N t b pre post s.md w r) (ho:pre.length=o) (hz:s.md=false→r=[.int .i64 0,.int .i64 0,.int .u64 0,.int .i64 0,.bool false,.bool false,.int .i64 0,.slice none 0 0]∧x=An.zero) (ht0:t≠99) (hx:anP x) (hf:s.fit (encAn x).length):Calls Tryz.prog 55 #[.pointer (some ⟨E.gf,0,none⟩),.pointer (some ⟨b,o,none⟩)] w (CpP E N t b pre post (stp encAn decAn s x).1 s.md AnR (stp encAn decAn s x).2 w):=by
 obtain⟨A1,c1,rfl,hl_inset⟩:=hR
 obtain⟨gf,hgf⟩:∃ gf,gf=E.gf:=⟨_,rfl⟩
 obtain⟨m,hm⟩:∃ m,m=s.md:=⟨_,rfl⟩
 obtain⟨⟨s0_,y0_⟩,hq0⟩:∃ p,p=stp encI Rd.i s x.machine:=⟨_,rfl⟩
 obtain⟨⟨s1_,y1_⟩,hq1⟩:∃ p,p=stp encI Rd.i s0_ x.owner:=⟨_,rfl⟩
 obtain⟨⟨s2_,y2_⟩,hq2⟩:∃ p,p=stp encI Rd.i s1_ x.epoch:=⟨_,rfl⟩
 obtain⟨⟨s3_,y3_⟩,hq3⟩:∃ p,p=stp encI Rd.i s2_ x.last:=⟨_,rfl⟩
 obtain⟨⟨s4_,y4_⟩,hq4⟩:∃ p,p=stp encU Rd.u s3_ x.number:=⟨_,rfl⟩
 obtain⟨⟨s5_,y5_⟩,hq5⟩:∃ p,p=stp encB Rd.bool s4_ x.known:=⟨_,rfl⟩
 obtain⟨⟨s6_,y6_⟩,hq6⟩:∃ p,p=stp encB Rd.bool s5_ x.rooted:=⟨_,rfl⟩
 obtain⟨⟨s7_,y7_⟩,hq7⟩:∃ p,p=stp (encL encIn) (Rd.list 1024 decIn) s6_ x.inset:=⟨_,rfl⟩
 rw[stp_answer hq0 hq1 hq2 hq3 hq4 hq5 hq6 hq7]
 have hm0:s.md=m:=hm.symm
 have hm1:=md_next hq0 hm0
 have hm2:=md_next hq1 hm1
 have hm3:=md_next hq2 hm2
 have hm4:=md_next hq3 hm3
 have hm5:=md_next hq4 hm4
 have hm6:=md_next hq5 hm5
 have hm7:=md_next hq6 hm6
 have hm8:=md_next hq7 hm7
 have hf0:s.fit ((encI x.machine).length+((encI x.owner).length+((encI x.epoch).length+((encI x.last).length+((encU x.number).length+((encB x.known).length+((encB x.rooted).length+(((encL encIn) x.inset).length+(0))))))))):=hf.mono (by unfold encAn;(try unfold encId);simp only[List.length_append];omega)
 have hf1:s0_.fit ((encI x.owner).length+((encI x.epoch).length+((encI x.last).length+((encU x.number).length+((encB x.known).length+((encB x.rooted).length+(((encL encIn) x.inset).length+(0)))))))):=fit_next hq0 hf0
 have hf2:s1_.fit ((encI x.epoch).length+((encI x.last).length+((encU x.number).length+((encB x.known).length+((encB x.rooted).length+(((encL encIn) x.inset).length+(0))))))):=fit_next hq1 hf1
 have hf3:s2_.fit ((encI x.last).length+((encU x.number).length+((encB x.known).length+((encB x.rooted).length+(((encL encIn) x.inset).length+(0)))))):=fit_next hq2 hf2
 have hf4:s3_.fit ((encU x.number).length+((encB x.known).length+((encB x.rooted).length+(((encL encIn) x.inset).length+(0))))):=fit_next hq3 hf3
 have hf5:s4_.fit ((encB x.known).length+((encB x.rooted).length+(((encL encIn) x.inset).length+(0)))):=fit_next hq4 hf4
 have hf6:s5_.fit ((encB x.rooted).length+(((encL encIn) x.inset).length+(0))):=fit_next hq5 hf5
 have hf7:s6_.fit (((encL encIn) x.inset).length+(0)):=fit_next hq6 hf6
 have hf8:s7_.fit (0):=fit_next hq7 hf7
 have HZ_inset:Hid (s.md=false→A1=none∧c1=0∧x.inset=[]):=lh fun h=>by
  obtain⟨h1,h2⟩:=hz h
  subst h2
  simp only[List.cons.injEq,Value.slice.injEq] at h1
  simp[h1,An.zero]
 have HM0:=lh hm0
 have HFT0:=lh hf0
 have HM1:=lh hm1
 have HFT1:=lh hf1
 have HM2:=lh hm2
 have HFT2:=lh hf2
 have HM3:=lh hm3
 have HFT3:=lh hf3
 have HM4:=lh hm4
 have HFT4:=lh hf4
 have HM5:=lh hm5
 have HFT5:=lh hf5
 have HM6:=lh hm6
 have HFT6:=lh hf6
 have HM7:=lh hm7
 have HFT7:=lh hf7
 have HM8:=lh hm8
 have HFT8:=lh hf8
 have HQ0:=lh hq0
 have HQ1:=lh hq1
 have HQ2:=lh hq2
 have HQ3:=lh hq3
 have HQ4:=lh hq4
 have HQ5:=lh hq5
 have HQ6:=lh hq6
 have HQ7:=lh hq7
 have HX:=lh hx
 have HO:=lh ho
 have HGF:=lh hgf
 have HT:=lh ht0
 rw[← hgf,← hm]
 rw[← hm] at hH hl_inset
 have HBL:Hid (b < w.heap.size):=lh (hH.lt (by simp))
 have HF:=lh hF
 have HH:=lh hH
 have HL_inset:=lh hl_inset
 clear hgf hm hF hH ho hx hf hz hl_inset ht0 hq0 hq1 hq2 hq3 hq4 hq5 hq6 hq7 hm0 hf0 hm1 hf1 hm2 hf2 hm3 hf3 hm4 hf4 hm5 hf5 hm6 hf6 hm7 hf7 hm8 hf8
 go_enter Tryz.func55,Tryz.ntmps55
 go_wp2_with fail
 refine wp_seq 15 (fun i=>([[],[],[1],[2],[],[4],[5],[],[7],[8],[],[10],[11],[3,6,9,12],[0,13]]:List (List Nat)).getD i []) [13,14] (fun i=>([1,0,0,0,0,0,0,0,0,0,0,0,0,0,0]:List Nat).getD i 0) (fun zz=>([.pointer (some ⟨gf,0,none⟩),.pointer (some ⟨b,o,none⟩),.pointer (some ⟨b,o,none⟩),.pointer (some ⟨b,o,none⟩),.pointer (some ⟨b,o,none⟩),.pointer (some ⟨b,o,none⟩),.pointer (some ⟨b,o+1,none⟩),.pointer (some ⟨b,o,none⟩),.pointer (some ⟨b,o,none⟩),.pointer (some ⟨b,o+3,none⟩),.pointer (some ⟨b,o,none⟩),.pointer (some ⟨b,o,none⟩),.pointer (some ⟨b,o+6,none⟩),.bool false,.bool false]:List Value).getD zz (.bool false)) (CmS (Below w.heap.size w) (fun v w1=>Below w.heap.size w w1∧∃ q,v=.slice (some ⟨q,0,none⟩) 4 4∧Bk w1 q 105 #[.pointer (some ⟨b,o,none⟩),.pointer (some ⟨b,o+1,none⟩),.pointer (some ⟨b,o+3,none⟩),.pointer (some ⟨b,o+6,none⟩)]∧w.heap.size≤q) (fun w1=>StP E N t b pre post (stpN s [x.machine,x.owner,x.epoch,x.last] 4).1 s.md (updI [.int .i64 x.machine,.int .i64 x.owner,.int .u64 x.number,.int .i64 x.epoch,.bool x.known,.bool x.rooted,.int .i64 x.last,.slice A1 x.inset.length c1] [0,1,3,6] (stpN s [x.machine,x.owner,x.epoch,x.last] 4).2) w (.returned (.tuple #[])) w1)) rfl (by kernel_rfl) (by rfl) (by kernel_rfl) ?_ ?_ ?_ ?_
 ·exact(Below.refl _ _).drew
 ·intro zi hzi hn zo ho k vs w1 hk hlow hS hvs
  rcases (show zi=0 ∨ zi=1 ∨ zi=2 ∨ zi=3 ∨ zi=4 ∨ zi=5 ∨ zi=6 ∨ zi=7 ∨ zi=8 ∨ zi=9 ∨ zi=10 ∨ zi=11 ∨ zi=12 ∨ zi=13 ∨ zi=14 by omega) with rfl | rfl | rfl | rfl | rfl | rfl | rfl | rfl | rfl | rfl | rfl | rfl | rfl | rfl | rfl <;> cases ho
  ·clear hS hvs hlow hk hn
   change Sem.run _ (execOp (Act.eval (frm _ _ _ [])) _) _=_
   simp only[frm]
   go_simp
  ·clear hS hvs hlow hk hn
   change Sem.run _ (execOp (Act.eval (frm _ _ _ [])) _) _=_
   simp only[frm]
   go_simp
  ·have h1:vs 1=.pointer (some ⟨b,o,none⟩):=hvs 1 (by decide) (by decide)
   clear hS hvs hlow hk hn
   change Sem.run _ (execOp (Act.eval (Act.put (frm _ _ _ []) (some 5) (vs 1))) _) _=_
   simp only[frm,h1]
   go_simp
  ·have h2:vs 2=.pointer (some ⟨b,o,none⟩):=hvs 2 (by decide) (by decide)
   clear hS hvs hlow hk hn
   change Sem.run _ (execOp (Act.eval (Act.put (frm _ _ _ []) (some 6) (vs 2))) _) _=_
   simp only[frm,h2]
   go_simp
  ·clear hS hvs hlow hk hn
   change Sem.run _ (execOp (Act.eval (frm _ _ _ [])) _) _=_
   simp only[frm]
   go_simp
  ·have h4:vs 4=.pointer (some ⟨b,o,none⟩):=hvs 4 (by decide) (by decide)
   clear hS hvs hlow hk hn
   change Sem.run _ (execOp (Act.eval (Act.put (frm _ _ _ []) (some 8) (vs 4))) _) _=_
   simp only[frm,h4]
   go_simp
  ·have h5:vs 5=.pointer (some ⟨b,o,none⟩):=hvs 5 (by decide) (by decide)
   clear hS hvs hlow hk hn
   change Sem.run _ (execOp (Act.eval (Act.put (frm _ _ _ []) (some 9) (vs 5))) _) _=_
   simp only[frm,h5]
   go_simp
  ·clear hS hvs hlow hk hn
   change Sem.run _ (execOp (Act.eval (frm _ _ _ [])) _) _=_
   simp only[frm]
   go_simp
  ·have h7:vs 7=.pointer (some ⟨b,o,none⟩):=hvs 7 (by decide) (by decide)
   clear hS hvs hlow hk hn
   change Sem.run _ (execOp (Act.eval (Act.put (frm _ _ _ []) (some 11) (vs 7))) _) _=_
   simp only[frm,h7]
   go_simp
  ·have h8:vs 8=.pointer (some ⟨b,o,none⟩):=hvs 8 (by decide) (by decide)
   clear hS hvs hlow hk hn
   change Sem.run _ (execOp (Act.eval (Act.put (frm _ _ _ []) (some 12) (vs 8))) _) _=_
   simp only[frm,h8]
   go_simp
  ·clear hS hvs hlow hk hn
   change Sem.run _ (execOp (Act.eval (frm _ _ _ [])) _) _=_
   simp only[frm]
   go_simp
  ·have h10:vs 10=.pointer (some ⟨b,o,none⟩):=hvs 10 (by decide) (by decide)
   clear hS hvs hlow hk hn
   change Sem.run _ (execOp (Act.eval (Act.put (frm _ _ _ []) (some 14) (vs 10))) _) _=_
   simp only[frm,h10]
   go_simp
  ·have h11:vs 11=.pointer (some ⟨b,o,none⟩):=hvs 11 (by decide) (by decide)
   clear hS hvs hlow hk hn
   change Sem.run _ (execOp (Act.eval (Act.put (frm _ _ _ []) (some 15) (vs 11))) _) _=_
   simp only[frm,h11]
   go_simp
  ·exact absurd (by decide) hn
  ·exact absurd (by decide) hn
 ·intro p hp o ho vs w1 hS hvs
  rcases (show p=0 ∨ p=1 by change p < 2 at hp;omega) with rfl | rfl <;> cases ho
  ·replace hS:Below w.heap.size w w1:=hS
   have h3:vs 3=.pointer (some ⟨b,o,none⟩):=hvs 3 (by decide) (by decide)
   have h6:vs 6=.pointer (some ⟨b,o+1,none⟩):=hvs 6 (by decide) (by decide)
   have h9:vs 9=.pointer (some ⟨b,o+3,none⟩):=hvs 9 (by decide) (by decide)
   have h12:vs 12=.pointer (some ⟨b,o+6,none⟩):=hvs 12 (by decide) (by decide)
   show Made _ (fun v w1=>Below w.heap.size w w1∧∃ q,v=.slice (some ⟨q,0,none⟩) 4 4∧Bk w1 q 105 #[.pointer (some ⟨b,o,none⟩),.pointer (some ⟨b,o+1,none⟩),.pointer (some ⟨b,o+3,none⟩),.pointer (some ⟨b,o+6,none⟩)]∧w.heap.size≤q) _
   change Made _ _ (Sem.run _ (execOp (Act.eval (Act.put (Act.put (Act.put (Act.put (frm _ _ _ []) (some 16) (vs 12)) (some 13) (vs 9)) (some 10) (vs 6)) (some 7) (vs 3))) _) _)
   simp only[frm,h3,h6,h9,h12]
   have HB1:=lh hS
   clear hS hvs h3 h6 h9 h12
   go_simp
   exact made_ok ⟨HB1.out.alloc HB1.out.size _,_,rfl,Bk.new _ _ _,HB1.out.size⟩
  ·replace hS:(fun v w1=>Below w.heap.size w w1∧∃ q,v=.slice (some ⟨q,0,none⟩) 4 4∧Bk w1 q 105 #[.pointer (some ⟨b,o,none⟩),.pointer (some ⟨b,o+1,none⟩),.pointer (some ⟨b,o+3,none⟩),.pointer (some ⟨b,o+6,none⟩)]∧w.heap.size≤q) (vs 13) w1:=hS
   have h0:vs 0=.pointer (some ⟨gf,0,none⟩):=hvs 0 (by decide) (by decide)
   show Made _ (fun _=>fun w1=>StP E N t b pre post (stpN s [x.machine,x.owner,x.epoch,x.last] 4).1 s.md (updI [.int .i64 x.machine,.int .i64 x.owner,.int .u64 x.number,.int .i64 x.epoch,.bool x.known,.bool x.rooted,.int .i64 x.last,.slice A1 x.inset.length c1] [0,1,3,6] (stpN s [x.machine,x.owner,x.epoch,x.last] 4).2) w (.returned (.tuple #[])) w1) _
   change Made _ _ (Sem.run _ (execOp (Act.eval (Act.put (Act.put (frm _ _ _ []) (some 17) (vs 13)) (some 4) (vs 0))) _) _)
   obtain⟨hb1,q,hq,hbk,hqs⟩:=hS
   simp only[frm,h0,hq]
   have cM:=small_any (pre:=pre) (post:=post) (js:=[0,1,3,6]) (xs:=[x.machine,x.owner,x.epoch,x.last]) (HF.out.below hb1) ((show Hd E N t b pre post s.md w _ by rw[HM0.out];exact HH.out).below hb1) HO.out (show Bk w1 q 105 ([0,1,3,6].map fun j=>Value.pointer (some ⟨b,o+j,none⟩)).toArray from hbk) (by have:=HBL.out;omega) (nreader HF.out (by omega)) rfl (by decide) (idx4 rfl rfl rfl rfl) (by simp only[List.mem_cons,List.not_mem_nil,or_false,forall_eq_or_imp,forall_eq];exact⟨HX.out.1,HX.out.2.1,HX.out.2.2.1,HX.out.2.2.2.1⟩) (HFT0.out.mono (by unfold encIs;simp only[List.flatMap_cons,List.flatMap_nil,List.length_append,List.length_nil];omega)) (by decide)
   rw[← HGF.out] at cM
   have HB1:=lh hb1
   clear hvs hbk hq hqs hb1 h0
   go_simp
   exact made_call (cM.mono fun e w2 ⟨he,h1,h2,h3⟩=>⟨_,he,rfl,h1,h2,(Fr.ofBelow HB1.out).trans h3⟩)
 ·intro vs w5 hS hvs
  replace hS:(fun w1=>StP E N t b pre post (stpN s [x.machine,x.owner,x.epoch,x.last] 4).1 s.md (updI [.int .i64 x.machine,.int .i64 x.owner,.int .u64 x.number,.int .i64 x.epoch,.bool x.known,.bool x.rooted,.int .i64 x.last,.slice A1 x.inset.length c1] [0,1,3,6] (stpN s [x.machine,x.owner,x.epoch,x.last] 4).2) w (.returned (.tuple #[])) w1) w5:=hS
  change wpList _ _ _ [] (Act.put (Act.put (Act.put (Act.put (Act.put (Act.put (Act.put (Act.put (Act.put (Act.put (Act.put (Act.put (Act.put (Act.put (Act.put (frm _ _ _ []) (some 18) (vs 14)) (some 17) (vs 13)) (some 16) (vs 12)) (some 15) (vs 11)) (some 14) (vs 10)) (some 13) (vs 9)) (some 12) (vs 8)) (some 11) (vs 7)) (some 10) (vs 6)) (some 9) (vs 5)) (some 8) (vs 4)) (some 7) (vs 3)) (some 6) (vs 2)) (some 5) (vs 1)) (some 4) (vs 0)) _
  simp only[frm]
  clear hvs
  generalize vs 0=z0
  generalize vs 1=z1
  generalize vs 2=z2
  generalize vs 3=z3
  generalize vs 4=z4
  generalize vs 5=z5
  generalize vs 6=z6
  generalize vs 7=z7
  generalize vs 8=z8
  generalize vs 9=z9
  generalize vs 10=z10
  generalize vs 11=z11
  generalize vs 12=z12
  generalize vs 13=z13
  generalize vs 14=z14
  obtain⟨_,hF5,hH5,hfr5⟩:=hS
  rw[stpN4 HQ0.out HQ1.out HQ2.out HQ3.out] at hF5 hH5
  rw[HM0.out] at hH5 hfr5
  replace hH5:Hd E N t b pre post m w5 [.int .i64 y0_,.int .i64 y1_,.int .u64 x.number,.int .i64 y2_,.bool x.known,.bool x.rooted,.int .i64 y3_,.slice A1 x.inset.length c1]:=hH5
  replace hF5:Fm E N w5 s3_:=hF5
  have HL0_inset:=lh (LsR.fr (flat_rk inC) HL_inset.out HF.out HM0.out HH.out hfr5 HT.out (id) (by decide) (by decide))
  have HF0_:=lh hF5
  have HH0_:=lh hH5
  have HFR0_:=lh hfr5
  clear hF5 hH5 hfr5
  have cM1:=Num_any (x:=x.number) (pre:=pre++[.int .i64 y0_,.int .i64 y1_]) (post:=[.int .i64 y2_,.bool x.known,.bool x.rooted,.int .i64 y3_,.slice A1 x.inset.length c1]++post) (o:=o+2) HF0_.out (show Hd E N t b (pre++[.int .i64 y0_,.int .i64 y1_]) ([.int .i64 y2_,.bool x.known,.bool x.rooted,.int .i64 y3_,.slice A1 x.inset.length c1]++post) s3_.md w5 [.int .u64 x.number] by rw[HM4.out];exact Hd.sub (r1:=[.int .i64 y0_,.int .i64 y1_]) (r2:=[.int .u64 x.number]) (r3:=[.int .i64 y2_,.bool x.known,.bool x.rooted,.int .i64 y3_,.slice A1 x.inset.length c1]) HH0_.out) (by rw[List.length_append,HO.out];rfl) (HX.out.2.2.2.2.1) (HFT4.out.mono (by omega))
  rw[← HQ4.out,HM4.out,← HGF.out] at cM1
  try dsimp only at cM1
  go_wp2_with fail
  refine cM1.mono ?_
  rintro e u1_ ⟨rfl,hF5,hH5,hfr5⟩
  have hHH:Hd E N t b pre post m u1_ [.int .i64 y0_,.int .i64 y1_,.int .u64 y4_,.int .i64 y2_,.bool x.known,.bool x.rooted,.int .i64 y3_,.slice A1 x.inset.length c1]:=Hd.back (r1:=[.int .i64 y0_,.int .i64 y1_]) (r2:=[.int .u64 x.number]) (r3:=[.int .i64 y2_,.bool x.known,.bool x.rooted,.int .i64 y3_,.slice A1 x.inset.length c1]) (r2':=[.int .u64 y4_]) HH0_.out hfr5 rfl hH5
  have HL1_inset:=lh (LsR.fr (flat_rk inC) HL0_inset.out HF0_.out HM4.out HH0_.out hfr5 HT.out (id) (by decide) (by decide))
  have HF1_:=lh hF5
  have HH1_:=lh hHH
  have HFR1_:=lh (HFR0_.out.trans hfr5)
  clear cM1 hF5 hH5 hfr5 hHH
  have cM2:=Flg_any (x:=x.known) (pre:=pre++[.int .i64 y0_,.int .i64 y1_,.int .u64 y4_,.int .i64 y2_]) (post:=[.bool x.rooted,.int .i64 y3_,.slice A1 x.inset.length c1]++post) (o:=o+4) HF1_.out (show Hd E N t b (pre++[.int .i64 y0_,.int .i64 y1_,.int .u64 y4_,.int .i64 y2_]) ([.bool x.rooted,.int .i64 y3_,.slice A1 x.inset.length c1]++post) s4_.md u1_ [.bool x.known] by rw[HM5.out];exact Hd.sub (r1:=[.int .i64 y0_,.int .i64 y1_,.int .u64 y4_,.int .i64 y2_]) (r2:=[.bool x.known]) (r3:=[.bool x.rooted,.int .i64 y3_,.slice A1 x.inset.length c1]) HH1_.out) (by rw[List.length_append,HO.out];rfl) (trivial) (HFT5.out.mono (by omega))
  rw[← HQ5.out,HM5.out,← HGF.out] at cM2
  try dsimp only at cM2
  go_wp2_with fail
  refine cM2.mono ?_
  rintro e u2_ ⟨rfl,hF5,hH5,hfr5⟩
  have hHH:Hd E N t b pre post m u2_ [.int .i64 y0_,.int .i64 y1_,.int .u64 y4_,.int .i64 y2_,.bool y5_,.bool x.rooted,.int .i64 y3_,.slice A1 x.inset.length c1]:=Hd.back (r1:=[.int .i64 y0_,.int .i64 y1_,.int .u64 y4_,.int .i64 y2_]) (r2:=[.bool x.known]) (r3:=[.bool x.rooted,.int .i64 y3_,.slice A1 x.inset.length c1]) (r2':=[.bool y5_]) HH1_.out hfr5 rfl hH5
  have HL2_inset:=lh (LsR.fr (flat_rk inC) HL1_inset.out HF1_.out HM5.out HH1_.out hfr5 HT.out (id) (by decide) (by decide))
  have HF2_:=lh hF5
  have HH2_:=lh hHH
  have HFR2_:=lh (HFR1_.out.trans hfr5)
  clear cM2 hF5 hH5 hfr5 hHH
  have cM3:=Flg_any (x:=x.rooted) (pre:=pre++[.int .i64 y0_,.int .i64 y1_,.int .u64 y4_,.int .i64 y2_,.bool y5_]) (post:=[.int .i64 y3_,.slice A1 x.inset.length c1]++post) (o:=o+5) HF2_.out (show Hd E N t b (pre++[.int .i64 y0_,.int .i64 y1_,.int .u64 y4_,.int .i64 y2_,.bool y5_]) ([.int .i64 y3_,.slice A1 x.inset.length c1]++post) s5_.md u2_ [.bool x.rooted] by rw[HM6.out];exact Hd.sub (r1:=[.int .i64 y0_,.int .i64 y1_,.int .u64 y4_,.int .i64 y2_,.bool y5_]) (r2:=[.bool x.rooted]) (r3:=[.int .i64 y3_,.slice A1 x.inset.length c1]) HH2_.out) (by rw[List.length_append,HO.out];rfl) (trivial) (HFT6.out.mono (by omega))
  rw[← HQ6.out,HM6.out,← HGF.out] at cM3
  try dsimp only at cM3
  go_wp2_with fail
  refine cM3.mono ?_
  rintro e u3_ ⟨rfl,hF5,hH5,hfr5⟩
  have hHH:Hd E N t b pre post m u3_ [.int .i64 y0_,.int .i64 y1_,.int .u64 y4_,.int .i64 y2_,.bool y5_,.bool y6_,.int .i64 y3_,.slice A1 x.inset.length c1]:=Hd.back (r1:=[.int .i64 y0_,.int .i64 y1_,.int .u64 y4_,.int .i64 y2_,.bool y5_]) (r2:=[.bool x.rooted]) (r3:=[.int .i64 y3_,.slice A1 x.inset.length c1]) (r2':=[.bool y6_]) HH2_.out hfr5 rfl hH5
  have HL3_inset:=lh (LsR.fr (flat_rk inC) HL2_inset.out HF2_.out HM6.out HH2_.out hfr5 HT.out (id) (by decide) (by decide))
  have HF3_:=lh hF5
  have HH3_:=lh hHH
  have HFR3_:=lh (HFR2_.out.trans hfr5)
  clear cM3 hF5 hH5 hfr5 hHH
  have cM4:=lsIn_any (l:=x.inset) (A:=A1) (c:=c1) (pre:=pre++[.int .i64 y0_,.int .i64 y1_,.int .u64 y4_,.int .i64 y2_,.bool y5_,.bool y6_,.int .i64 y3_]) (post:=[]++post) (o:=o+7) HF3_.out (show LsR (flat inC) 99 3 s6_.md N u3_ A1 c1 x.inset by rw[HM7.out];exact HL3_inset.out) (show Hd E N t b (pre++[.int .i64 y0_,.int .i64 y1_,.int .u64 y4_,.int .i64 y2_,.bool y5_,.bool y6_,.int .i64 y3_]) ([]++post) s6_.md u3_ [.slice A1 x.inset.length c1] by rw[HM7.out];exact Hd.sub (r1:=[.int .i64 y0_,.int .i64 y1_,.int .u64 y4_,.int .i64 y2_,.bool y5_,.bool y6_,.int .i64 y3_]) (r2:=[.slice A1 x.inset.length c1]) (r3:=[]) HH3_.out) (by rw[List.length_append,HO.out];rfl) (fun h=>HZ_inset.out (by rw[HM0.out];rw[HM7.out] at h;exact h))  (HX.out.2.2.2.2.2.2) (HFT7.out.mono (by omega))
  rw[← HQ7.out,HM7.out,← HGF.out] at cM4
  try dsimp only at cM4
  go_wp2_with fail
  refine cM4.mono ?_
  rintro e u4_ ⟨rfl,hF5,⟨A4_,c4_,hl5,hH5⟩,hfr5⟩
  have hHH:Hd E N t b pre post m u4_ [.int .i64 y0_,.int .i64 y1_,.int .u64 y4_,.int .i64 y2_,.bool y5_,.bool y6_,.int .i64 y3_,.slice A4_ y7_.length c4_]:=Hd.back (r1:=[.int .i64 y0_,.int .i64 y1_,.int .u64 y4_,.int .i64 y2_,.bool y5_,.bool y6_,.int .i64 y3_]) (r2:=[.slice A1 x.inset.length c1]) (r3:=[]) (r2':=[.slice A4_ y7_.length c4_]) HH3_.out hfr5 rfl hH5
  have HL4_inset:=lh hl5
  have HF4_:=lh hF5
  have HH4_:=lh hHH
  have HFR4_:=lh (HFR3_.out.trans hfr5)
  clear cM4 hF5 hH5 hfr5 hHH hl5
  go_wp2_with fail
  go_end0
  exact⟨rfl,HF4_.out,⟨_,⟨_,_,rfl,HL4_inset.out⟩,HH4_.out⟩,HFR4_.out⟩
end
end
end Go.Proofs.YtmbnlccafcfbeaaGreatDoor
