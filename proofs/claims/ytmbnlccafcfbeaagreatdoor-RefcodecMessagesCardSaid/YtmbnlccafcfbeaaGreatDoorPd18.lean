/- Parts of the proof: RcG. -/
import Derived.Test.YtmbnlccafcfbeaaGreatDoorPdA
import Derived.Test.YtmbnlccafcfbeaaGreatDoorPd17
set_option linter.unusedVariables false
set_option linter.unusedSimpArgs false
set_option linter.unusedSectionVars false
set_option maxRecDepth 100000
namespace Go.Proofs.YtmbnlccafcfbeaaGreatDoor
section
open Go.RowKit
attribute [local go_sem] Oper.semAt_some
def MsR:Rel Ms:=fun m N w x r=>∃ A1 c1 A2 c2 A3 c3 A4 c4 A5 c5 A6 c6 A7 c7 A8 c8,r=[.int .i64 x.kind,.int .u64 x.number,.int .i64 x.asker,.string x.name,.int .i64 x.ref.kind,.int .i64 x.ref.int,.int .i64 x.ref.owner,.int .u64 x.ref.number,.int .i64 x.ref.idm,.int .i64 x.ref.ids,.int .i64 x.ref.cls,.bool x.ref.weak,.int .i64 x.letter.idm,.int .i64 x.letter.ids,.string x.letter.meth,.slice A1 x.letter.args.length c1,.int .u64 x.parcel.number,.int .i64 x.parcel.idm,.int .i64 x.parcel.ids,.int .i64 x.parcel.kind,.int .i64 x.parcel.cls,.slice A2 x.parcel.fields.length c2,.slice A3 x.parcel.mail.length c3,.slice A4 x.parcel.watches.length c4,.int .i64 x.tm,.int .i64 x.ts,.int .i64 x.answer.machine,.int .i64 x.answer.owner,.int .u64 x.answer.number,.int .i64 x.answer.epoch,.bool x.answer.known,.bool x.answer.rooted,.int .i64 x.answer.last,.slice A5 x.answer.inset.length c5,.int .i64 x.claim.machine,.int .i64 x.claim.epoch,.slice A6 x.claim.stubs.length c6,.slice A7 x.claim.scions.length c7,.slice A8 x.claim.checks.length c8]∧LsR (flat rfC) 26 8 m N w A1 c1 x.letter.args∧LsR (flat rfC) 26 8 m N w A2 c2 x.parcel.fields∧LsR LtR 29 4 m N w A3 c3 x.parcel.mail∧LsR (flat waC) 65 12 m N w A4 c4 x.parcel.watches∧LsR (flat inC) 99 3 m N w A5 c5 x.answer.inset∧LsR (flat ndC) 136 3 m N w A6 c6 x.claim.stubs∧LsR (flat ndC) 136 3 m N w A7 c7 x.claim.scions∧LsR (flat ndC) 136 3 m N w A8 c8 x.claim.checks
theorem stp_message {s s0_ s1_ s2_ s3_ s4_ s5_ s6_ s7_ s8_ s9_ s10_:Fs} {x:Ms} {y0_:Int} {y1_:Int} {y2_:Int} {y3_:Int} {y4_:Int} {y5_:ByteArray} {y6_:Rf} {y7_:Lt} {y8_:Pc} {y9_:An} {y10_:Cl} (h0:(s0_,y0_)=stp encI Rd.i s x.kind) (h1:(s1_,y1_)=stp encI Rd.i s0_ x.asker) (h2:(s2_,y2_)=stp encI Rd.i s1_ x.tm) (h3:(s3_,y3_)=stp encI Rd.i s2_ x.ts) (h4:(s4_,y4_)=stp encU Rd.u s3_ x.number) (h5:(s5_,y5_)=stp encS (Rd.text 4096) s4_ x.name) (h6:(s6_,y6_)=stp encRf decRf s5_ x.ref) (h7:(s7_,y7_)=stp encLt decLt s6_ x.letter) (h8:(s8_,y8_)=stp encPc decPc s7_ x.parcel) (h9:(s9_,y9_)=stp encAn decAn s8_ x.answer) (h10:(s10_,y10_)=stp encCl decCl s9_ x.claim):stp encMs decMs s x=(s10_,(⟨y0_,y4_,y1_,y5_,y6_,y7_,y8_,y2_,y3_,y9_,y10_⟩:Ms)):=by
 cases s with
 | w l =>
  obtain⟨rfl,rfl⟩:=Prod.mk.inj h0
  obtain⟨rfl,rfl⟩:=Prod.mk.inj h1
  obtain⟨rfl,rfl⟩:=Prod.mk.inj h2
  obtain⟨rfl,rfl⟩:=Prod.mk.inj h3
  obtain⟨rfl,rfl⟩:=Prod.mk.inj h4
  obtain⟨rfl,rfl⟩:=Prod.mk.inj h5
  obtain⟨rfl,rfl⟩:=Prod.mk.inj h6
  obtain⟨rfl,rfl⟩:=Prod.mk.inj h7
  obtain⟨rfl,rfl⟩:=Prod.mk.inj h8
  obtain⟨rfl,rfl⟩:=Prod.mk.inj h9
  obtain⟨rfl,rfl⟩:=Prod.mk.inj h10
  simp[stp,encMs,encId,List.append_assoc]
 | r rd =>
  obtain⟨rfl,rfl⟩:=Prod.mk.inj h0
  obtain⟨rfl,rfl⟩:=Prod.mk.inj h1
  obtain⟨rfl,rfl⟩:=Prod.mk.inj h2
  obtain⟨rfl,rfl⟩:=Prod.mk.inj h3
  obtain⟨rfl,rfl⟩:=Prod.mk.inj h4
  obtain⟨rfl,rfl⟩:=Prod.mk.inj h5
  obtain⟨rfl,rfl⟩:=Prod.mk.inj h6
  obtain⟨rfl,rfl⟩:=Prod.mk.inj h7
  obtain⟨rfl,rfl⟩:=Prod.mk.inj h8
  obtain⟨rfl,rfl⟩:=Prod.mk.inj h9
  obtain⟨rfl,rfl⟩:=Prod.mk.inj h10
  rfl
section
variable {E:Env} {N:Nat→Prop} {t:TypeId} {b o:Nat} {pre post r:List Value} {w:World} {s:Fs} {x:Ms}
set_option maxHeartbeats 8000000 in
theorem message_any (hF:Fm E N w s) (hR:MsR s.md N w x r) (hH:Hd E N t b pre post s.md w r) (ho:pre.length=o) (hz:s.md=false→r=[.int .i64 0,.int .u64 0,.int .i64 0,.string ⟨#[]⟩,.int .i64 0,.int .i64 0,.int .i64 0,.int .u64 0,.int .i64 0,.int .i64 0,.int .i64 0,.bool false,.int .i64 0,.int .i64 0,.string ⟨#[]⟩,.slice none 0 0,.int .u64 0,.int .i64 0,.int .i64 0,.int .i64 0,.int .i64 0,.slice none 0 0,.slice none 0 0,.slice none 0 0,.int .i64 0,.int .i64 0,.int .i64 0,.int .i64 0,.int .u64 0,.int .i64 0,.bool false,.bool false,.int .i64 0,.slice none 0 0,.int .i64 0,.int .i64 0,.slice none 0 0,.slice none 0 0,.slice none 0 0]∧x=Ms.zero) (ht0:t≠26) (ht1:t≠29) (ht2:t≠65) (ht3:t≠99) (ht4:t≠136) (hx:msP x) (hf:s.fit (encMs x).length):Calls Tryz.prog 34 #[.pointer (some ⟨E.gf,0,none⟩),.pointer (some ⟨b,o,none⟩)] w (CpP E N t b pre post (stp encMs decMs s x).1 s.md MsR (stp encMs decMs s x).2 w):=by
 obtain⟨A1,c1,A2,c2,A3,c3,A4,c4,A5,c5,A6,c6,A7,c7,A8,c8,rfl,hl_largs,hl_pf,hl_pm,hl_pw,hl_ai,hl_ks,hl_kc,hl_kk⟩:=hR
 obtain⟨gf,hgf⟩:∃ gf,gf=E.gf:=⟨_,rfl⟩
 obtain⟨m,hm⟩:∃ m,m=s.md:=⟨_,rfl⟩
 obtain⟨⟨s0_,y0_⟩,hq0⟩:∃ p,p=stp encI Rd.i s x.kind:=⟨_,rfl⟩
 obtain⟨⟨s1_,y1_⟩,hq1⟩:∃ p,p=stp encI Rd.i s0_ x.asker:=⟨_,rfl⟩
 obtain⟨⟨s2_,y2_⟩,hq2⟩:∃ p,p=stp encI Rd.i s1_ x.tm:=⟨_,rfl⟩
 obtain⟨⟨s3_,y3_⟩,hq3⟩:∃ p,p=stp encI Rd.i s2_ x.ts:=⟨_,rfl⟩
 obtain⟨⟨s4_,y4_⟩,hq4⟩:∃ p,p=stp encU Rd.u s3_ x.number:=⟨_,rfl⟩
 obtain⟨⟨s5_,y5_⟩,hq5⟩:∃ p,p=stp encS (Rd.text 4096) s4_ x.name:=⟨_,rfl⟩
 obtain⟨⟨s6_,y6_⟩,hq6⟩:∃ p,p=stp encRf decRf s5_ x.ref:=⟨_,rfl⟩
 obtain⟨⟨s7_,y7_⟩,hq7⟩:∃ p,p=stp encLt decLt s6_ x.letter:=⟨_,rfl⟩
 obtain⟨⟨s8_,y8_⟩,hq8⟩:∃ p,p=stp encPc decPc s7_ x.parcel:=⟨_,rfl⟩
 obtain⟨⟨s9_,y9_⟩,hq9⟩:∃ p,p=stp encAn decAn s8_ x.answer:=⟨_,rfl⟩
 obtain⟨⟨s10_,y10_⟩,hq10⟩:∃ p,p=stp encCl decCl s9_ x.claim:=⟨_,rfl⟩
 rw[stp_message hq0 hq1 hq2 hq3 hq4 hq5 hq6 hq7 hq8 hq9 hq10]
 have hm0:s.md=m:=hm.symm
 have hm1:=md_next hq0 hm0
 have hm2:=md_next hq1 hm1
 have hm3:=md_next hq2 hm2
 have hm4:=md_next hq3 hm3
 have hm5:=md_next hq4 hm4
 have hm6:=md_next hq5 hm5
 have hm7:=md_next hq6 hm6
 have hm8:=md_next hq7 hm7
 have hm9:=md_next hq8 hm8
 have hm10:=md_next hq9 hm9
 have hm11:=md_next hq10 hm10
 have hf0:s.fit ((encI x.kind).length+((encI x.asker).length+((encI x.tm).length+((encI x.ts).length+((encU x.number).length+((encS x.name).length+((encRf x.ref).length+((encLt x.letter).length+((encPc x.parcel).length+((encAn x.answer).length+((encCl x.claim).length+(0)))))))))))):=hf.mono (by unfold encMs;(try unfold encId);simp only[List.length_append];omega)
 have hf1:s0_.fit ((encI x.asker).length+((encI x.tm).length+((encI x.ts).length+((encU x.number).length+((encS x.name).length+((encRf x.ref).length+((encLt x.letter).length+((encPc x.parcel).length+((encAn x.answer).length+((encCl x.claim).length+(0))))))))))):=fit_next hq0 hf0
 have hf2:s1_.fit ((encI x.tm).length+((encI x.ts).length+((encU x.number).length+((encS x.name).length+((encRf x.ref).length+((encLt x.letter).length+((encPc x.parcel).length+((encAn x.answer).length+((encCl x.claim).length+(0)))))))))):=fit_next hq1 hf1
 have hf3:s2_.fit ((encI x.ts).length+((encU x.number).length+((encS x.name).length+((encRf x.ref).length+((encLt x.letter).length+((encPc x.parcel).length+((encAn x.answer).length+((encCl x.claim).length+(0))))))))):=fit_next hq2 hf2
 have hf4:s3_.fit ((encU x.number).length+((encS x.name).length+((encRf x.ref).length+((encLt x.letter).length+((encPc x.parcel).length+((encAn x.answer).length+((encCl x.claim).length+(0)))))))):=fit_next hq3 hf3
 have hf5:s4_.fit ((encS x.name).length+((encRf x.ref).length+((encLt x.letter).length+((encPc x.parcel).length+((encAn x.answer).length+((encCl x.claim).length+(0))))))):=fit_next hq4 hf4
 have hf6:s5_.fit ((encRf x.ref).length+((encLt x.letter).length+((encPc x.parcel).length+((encAn x.answer).length+((encCl x.claim).length+(0)))))):=fit_next hq5 hf5
 have hf7:s6_.fit ((encLt x.letter).length+((encPc x.parcel).length+((encAn x.answer).length+((encCl x.claim).length+(0))))):=fit_next hq6 hf6
 have hf8:s7_.fit ((encPc x.parcel).length+((encAn x.answer).length+((encCl x.claim).length+(0)))):=fit_next hq7 hf7
 have hf9:s8_.fit ((encAn x.answer).length+((encCl x.claim).length+(0))):=fit_next hq8 hf8
 have hf10:s9_.fit ((encCl x.claim).length+(0)):=fit_next hq9 hf9
 have hf11:s10_.fit (0):=fit_next hq10 hf10
 have HZ_largs:Hid (s.md=false→A1=none∧c1=0∧x.letter.args=[]):=lh fun h=>by
  obtain⟨h1,h2⟩:=hz h
  subst h2
  simp only[List.cons.injEq,Value.slice.injEq] at h1
  simp[h1,Ms.zero,Rf.zero,Lt.zero,Pc.zero,An.zero,Cl.zero]
 have HZ_pf:Hid (s.md=false→A2=none∧c2=0∧x.parcel.fields=[]):=lh fun h=>by
  obtain⟨h1,h2⟩:=hz h
  subst h2
  simp only[List.cons.injEq,Value.slice.injEq] at h1
  simp[h1,Ms.zero,Rf.zero,Lt.zero,Pc.zero,An.zero,Cl.zero]
 have HZ_pm:Hid (s.md=false→A3=none∧c3=0∧x.parcel.mail=[]):=lh fun h=>by
  obtain⟨h1,h2⟩:=hz h
  subst h2
  simp only[List.cons.injEq,Value.slice.injEq] at h1
  simp[h1,Ms.zero,Rf.zero,Lt.zero,Pc.zero,An.zero,Cl.zero]
 have HZ_pw:Hid (s.md=false→A4=none∧c4=0∧x.parcel.watches=[]):=lh fun h=>by
  obtain⟨h1,h2⟩:=hz h
  subst h2
  simp only[List.cons.injEq,Value.slice.injEq] at h1
  simp[h1,Ms.zero,Rf.zero,Lt.zero,Pc.zero,An.zero,Cl.zero]
 have HZ_ai:Hid (s.md=false→A5=none∧c5=0∧x.answer.inset=[]):=lh fun h=>by
  obtain⟨h1,h2⟩:=hz h
  subst h2
  simp only[List.cons.injEq,Value.slice.injEq] at h1
  simp[h1,Ms.zero,Rf.zero,Lt.zero,Pc.zero,An.zero,Cl.zero]
 have HZ_ks:Hid (s.md=false→A6=none∧c6=0∧x.claim.stubs=[]):=lh fun h=>by
  obtain⟨h1,h2⟩:=hz h
  subst h2
  simp only[List.cons.injEq,Value.slice.injEq] at h1
  simp[h1,Ms.zero,Rf.zero,Lt.zero,Pc.zero,An.zero,Cl.zero]
 have HZ_kc:Hid (s.md=false→A7=none∧c7=0∧x.claim.scions=[]):=lh fun h=>by
  obtain⟨h1,h2⟩:=hz h
  subst h2
  simp only[List.cons.injEq,Value.slice.injEq] at h1
  simp[h1,Ms.zero,Rf.zero,Lt.zero,Pc.zero,An.zero,Cl.zero]
 have HZ_kk:Hid (s.md=false→A8=none∧c8=0∧x.claim.checks=[]):=lh fun h=>by
  obtain⟨h1,h2⟩:=hz h
  subst h2
  simp only[List.cons.injEq,Value.slice.injEq] at h1
  simp[h1,Ms.zero,Rf.zero,Lt.zero,Pc.zero,An.zero,Cl.zero]
 have HZX:=lh hz
 have HM0:=lh hm0
 have HFT0:=lh hf0
 have HM1:=lh hm1
 have HFT1:=lh hf1
 have HM2:=lh hm2
 have HFT2:=lh hf2
 have HM3:=lh hm3
 have HFT3:=lh hf3
 have HM4:=lh hm4
 have HFT4:=lh hf4
 have HM5:=lh hm5
 have HFT5:=lh hf5
 have HM6:=lh hm6
 have HFT6:=lh hf6
 have HM7:=lh hm7
 have HFT7:=lh hf7
 have HM8:=lh hm8
 have HFT8:=lh hf8
 have HM9:=lh hm9
 have HFT9:=lh hf9
 have HM10:=lh hm10
 have HFT10:=lh hf10
 have HM11:=lh hm11
 have HFT11:=lh hf11
 have HQ0:=lh hq0
 have HQ1:=lh hq1
 have HQ2:=lh hq2
 have HQ3:=lh hq3
 have HQ4:=lh hq4
 have HQ5:=lh hq5
 have HQ6:=lh hq6
 have HQ7:=lh hq7
 have HQ8:=lh hq8
 have HQ9:=lh hq9
 have HQ10:=lh hq10
 have HX:=lh hx
 have HO:=lh ho
 have HGF:=lh hgf
 have HT:=lh (And.intro ht0 (And.intro ht1 (And.intro ht2 (And.intro ht3 ht4))))
 rw[← hgf,← hm]
 rw[← hm] at hH hl_largs hl_pf hl_pm hl_pw hl_ai hl_ks hl_kc hl_kk
 have HBL:Hid (b < w.heap.size):=lh (hH.lt (by simp))
 have HF:=lh hF
 have HH:=lh hH
 have HL_largs:=lh hl_largs
 have HL_pf:=lh hl_pf
 have HL_pm:=lh hl_pm
 have HL_pw:=lh hl_pw
 have HL_ai:=lh hl_ai
 have HL_ks:=lh hl_ks
 have HL_kc:=lh hl_kc
 have HL_kk:=lh hl_kk
 clear hgf hm hF hH ho hx hf hz hl_largs hl_pf hl_pm hl_pw hl_ai hl_ks hl_kc hl_kk ht0 ht1 ht2 ht3 ht4 hq0 hq1 hq2 hq3 hq4 hq5 hq6 hq7 hq8 hq9 hq10 hm0 hf0 hm1 hf1 hm2 hf2 hm3 hf3 hm4 hf4 hm5 hf5 hm6 hf6 hm7 hf7 hm8 hf8 hm9 hf9 hm10 hf10 hm11 hf11
 go_enter Tryz.func34,Tryz.ntmps34
 go_wp2_with fail
 refine wp_seq 17 (fun i=>([[],[],[1],[2],[],[4],[5],[],[7],[8],[9],[],[11],[12],[13],[3,6,10,14],[0,15]]:List (List Nat)).getD i []) [15,16] (fun i=>([1,0,0,0,0,0,0,0,0,0,0,0,0,0,0,0,0]:List Nat).getD i 0) (fun zz=>([.pointer (some ⟨gf,0,none⟩),.pointer (some ⟨b,o,none⟩),.pointer (some ⟨b,o,none⟩),.pointer (some ⟨b,o,none⟩),.pointer (some ⟨b,o,none⟩),.pointer (some ⟨b,o,none⟩),.pointer (some ⟨b,o+2,none⟩),.pointer (some ⟨b,o,none⟩),.pointer (some ⟨b,o,none⟩),.pointer (some ⟨b,o+24,none⟩),.pointer (some ⟨b,o+24,none⟩),.pointer (some ⟨b,o,none⟩),.pointer (some ⟨b,o,none⟩),.pointer (some ⟨b,o+24,none⟩),.pointer (some ⟨b,o+25,none⟩),.bool false,.bool false]:List Value).getD zz (.bool false)) (CmS (Below w.heap.size w) (fun v w1=>Below w.heap.size w w1∧∃ q,v=.slice (some ⟨q,0,none⟩) 4 4∧Bk w1 q 105 #[.pointer (some ⟨b,o,none⟩),.pointer (some ⟨b,o+2,none⟩),.pointer (some ⟨b,o+24,none⟩),.pointer (some ⟨b,o+25,none⟩)]∧w.heap.size≤q) (fun w1=>StP E N t b pre post (stpN s [x.kind,x.asker,x.tm,x.ts] 4).1 s.md (updI [.int .i64 x.kind,.int .u64 x.number,.int .i64 x.asker,.string x.name,.int .i64 x.ref.kind,.int .i64 x.ref.int,.int .i64 x.ref.owner,.int .u64 x.ref.number,.int .i64 x.ref.idm,.int .i64 x.ref.ids,.int .i64 x.ref.cls,.bool x.ref.weak,.int .i64 x.letter.idm,.int .i64 x.letter.ids,.string x.letter.meth,.slice A1 x.letter.args.length c1,.int .u64 x.parcel.number,.int .i64 x.parcel.idm,.int .i64 x.parcel.ids,.int .i64 x.parcel.kind,.int .i64 x.parcel.cls,.slice A2 x.parcel.fields.length c2,.slice A3 x.parcel.mail.length c3,.slice A4 x.parcel.watches.length c4,.int .i64 x.tm,.int .i64 x.ts,.int .i64 x.answer.machine,.int .i64 x.answer.owner,.int .u64 x.answer.number,.int .i64 x.answer.epoch,.bool x.answer.known,.bool x.answer.rooted,.int .i64 x.answer.last,.slice A5 x.answer.inset.length c5,.int .i64 x.claim.machine,.int .i64 x.claim.epoch,.slice A6 x.claim.stubs.length c6,.slice A7 x.claim.scions.length c7,.slice A8 x.claim.checks.length c8] [0,2,24,25] (stpN s [x.kind,x.asker,x.tm,x.ts] 4).2) w (.returned (.tuple #[])) w1)) rfl (by kernel_rfl) (by rfl) (by kernel_rfl) ?_ ?_ ?_ ?_
 ·exact(Below.refl _ _).drew
 ·intro zi hzi hn zo ho k vs w1 hk hlow hS hvs
  rcases (show zi=0 ∨ zi=1 ∨ zi=2 ∨ zi=3 ∨ zi=4 ∨ zi=5 ∨ zi=6 ∨ zi=7 ∨ zi=8 ∨ zi=9 ∨ zi=10 ∨ zi=11 ∨ zi=12 ∨ zi=13 ∨ zi=14 ∨ zi=15 ∨ zi=16 by omega) with rfl | rfl | rfl | rfl | rfl | rfl | rfl | rfl | rfl | rfl | rfl | rfl | rfl | rfl | rfl | rfl | rfl <;> cases ho
  ·clear hS hvs hlow hk hn
   change Sem.run _ (execOp (Act.eval (frm _ _ _ [])) _) _=_
   simp only[frm]
   go_simp
  ·clear hS hvs hlow hk hn
   change Sem.run _ (execOp (Act.eval (frm _ _ _ [])) _) _=_
   simp only[frm]
   go_simp
  ·have h1:vs 1=.pointer (some ⟨b,o,none⟩):=hvs 1 (by decide) (by decide)
   clear hS hvs hlow hk hn
   change Sem.run _ (execOp (Act.eval (Act.put (frm _ _ _ []) (some 5) (vs 1))) _) _=_
   simp only[frm,h1]
   go_simp
  ·have h2:vs 2=.pointer (some ⟨b,o,none⟩):=hvs 2 (by decide) (by decide)
   clear hS hvs hlow hk hn
   change Sem.run _ (execOp (Act.eval (Act.put (frm _ _ _ []) (some 6) (vs 2))) _) _=_
   simp only[frm,h2]
   go_simp
  ·clear hS hvs hlow hk hn
   change Sem.run _ (execOp (Act.eval (frm _ _ _ [])) _) _=_
   simp only[frm]
   go_simp
  ·have h4:vs 4=.pointer (some ⟨b,o,none⟩):=hvs 4 (by decide) (by decide)
   clear hS hvs hlow hk hn
   change Sem.run _ (execOp (Act.eval (Act.put (frm _ _ _ []) (some 8) (vs 4))) _) _=_
   simp only[frm,h4]
   go_simp
  ·have h5:vs 5=.pointer (some ⟨b,o,none⟩):=hvs 5 (by decide) (by decide)
   clear hS hvs hlow hk hn
   change Sem.run _ (execOp (Act.eval (Act.put (frm _ _ _ []) (some 9) (vs 5))) _) _=_
   simp only[frm,h5]
   go_simp
  ·clear hS hvs hlow hk hn
   change Sem.run _ (execOp (Act.eval (frm _ _ _ [])) _) _=_
   simp only[frm]
   go_simp
  ·have h7:vs 7=.pointer (some ⟨b,o,none⟩):=hvs 7 (by decide) (by decide)
   clear hS hvs hlow hk hn
   change Sem.run _ (execOp (Act.eval (Act.put (frm _ _ _ []) (some 11) (vs 7))) _) _=_
   simp only[frm,h7]
   go_simp
  ·have h8:vs 8=.pointer (some ⟨b,o,none⟩):=hvs 8 (by decide) (by decide)
   clear hS hvs hlow hk hn
   change Sem.run _ (execOp (Act.eval (Act.put (frm _ _ _ []) (some 12) (vs 8))) _) _=_
   simp only[frm,h8]
   go_simp
  ·have h9:vs 9=.pointer (some ⟨b,o+24,none⟩):=hvs 9 (by decide) (by decide)
   clear hS hvs hlow hk hn
   change Sem.run _ (execOp (Act.eval (Act.put (frm _ _ _ []) (some 13) (vs 9))) _) _=_
   simp only[frm,h9]
   go_simp
  ·clear hS hvs hlow hk hn
   change Sem.run _ (execOp (Act.eval (frm _ _ _ [])) _) _=_
   simp only[frm]
   go_simp
  ·have h11:vs 11=.pointer (some ⟨b,o,none⟩):=hvs 11 (by decide) (by decide)
   clear hS hvs hlow hk hn
   change Sem.run _ (execOp (Act.eval (Act.put (frm _ _ _ []) (some 15) (vs 11))) _) _=_
   simp only[frm,h11]
   go_simp
  ·have h12:vs 12=.pointer (some ⟨b,o,none⟩):=hvs 12 (by decide) (by decide)
   clear hS hvs hlow hk hn
   change Sem.run _ (execOp (Act.eval (Act.put (frm _ _ _ []) (some 16) (vs 12))) _) _=_
   simp only[frm,h12]
   go_simp
  ·have h13:vs 13=.pointer (some ⟨b,o+24,none⟩):=hvs 13 (by decide) (by decide)
   clear hS hvs hlow hk hn
   change Sem.run _ (execOp (Act.eval (Act.put (frm _ _ _ []) (some 17) (vs 13))) _) _=_
   simp only[frm,h13]
   go_simp
  ·exact absurd (by decide) hn
  ·exact absurd (by decide) hn
 ·intro p hp o ho vs w1 hS hvs
  rcases (show p=0 ∨ p=1 by change p < 2 at hp;omega) with rfl | rfl <;> cases ho
  ·replace hS:Below w.heap.size w w1:=hS
   have h3:vs 3=.pointer (some ⟨b,o,none⟩):=hvs 3 (by decide) (by decide)
   have h6:vs 6=.pointer (some ⟨b,o+2,none⟩):=hvs 6 (by decide) (by decide)
   have h10:vs 10=.pointer (some ⟨b,o+24,none⟩):=hvs 10 (by decide) (by decide)
   have h14:vs 14=.pointer (some ⟨b,o+25,none⟩):=hvs 14 (by decide) (by decide)
   show Made _ (fun v w1=>Below w.heap.size w w1∧∃ q,v=.slice (some ⟨q,0,none⟩) 4 4∧Bk w1 q 105 #[.pointer (some ⟨b,o,none⟩),.pointer (some ⟨b,o+2,none⟩),.pointer (some ⟨b,o+24,none⟩),.pointer (some ⟨b,o+25,none⟩)]∧w.heap.size≤q) _
   change Made _ _ (Sem.run _ (execOp (Act.eval (Act.put (Act.put (Act.put (Act.put (frm _ _ _ []) (some 18) (vs 14)) (some 14) (vs 10)) (some 10) (vs 6)) (some 7) (vs 3))) _) _)
   simp only[frm,h3,h6,h10,h14]
   have HB1:=lh hS
   clear hS hvs h3 h6 h10 h14
   go_simp
   exact made_ok ⟨HB1.out.alloc HB1.out.size _,_,rfl,Bk.new _ _ _,HB1.out.size⟩
  ·replace hS:(fun v w1=>Below w.heap.size w w1∧∃ q,v=.slice (some ⟨q,0,none⟩) 4 4∧Bk w1 q 105 #[.pointer (some ⟨b,o,none⟩),.pointer (some ⟨b,o+2,none⟩),.pointer (some ⟨b,o+24,none⟩),.pointer (some ⟨b,o+25,none⟩)]∧w.heap.size≤q) (vs 15) w1:=hS
   have h0:vs 0=.pointer (some ⟨gf,0,none⟩):=hvs 0 (by decide) (by decide)
   show Made _ (fun _=>fun w1=>StP E N t b pre post (stpN s [x.kind,x.asker,x.tm,x.ts] 4).1 s.md (updI [.int .i64 x.kind,.int .u64 x.number,.int .i64 x.asker,.string x.name,.int .i64 x.ref.kind,.int .i64 x.ref.int,.int .i64 x.ref.owner,.int .u64 x.ref.number,.int .i64 x.ref.idm,.int .i64 x.ref.ids,.int .i64 x.ref.cls,.bool x.ref.weak,.int .i64 x.letter.idm,.int .i64 x.letter.ids,.string x.letter.meth,.slice A1 x.letter.args.length c1,.int .u64 x.parcel.number,.int .i64 x.parcel.idm,.int .i64 x.parcel.ids,.int .i64 x.parcel.kind,.int .i64 x.parcel.cls,.slice A2 x.parcel.fields.length c2,.slice A3 x.parcel.mail.length c3,.slice A4 x.parcel.watches.length c4,.int .i64 x.tm,.int .i64 x.ts,.int .i64 x.answer.machine,.int .i64 x.answer.owner,.int .u64 x.answer.number,.int .i64 x.answer.epoch,.bool x.answer.known,.bool x.answer.rooted,.int .i64 x.answer.last,.slice A5 x.answer.inset.length c5,.int .i64 x.claim.machine,.int .i64 x.claim.epoch,.slice A6 x.claim.stubs.length c6,.slice A7 x.claim.scions.length c7,.slice A8 x.claim.checks.length c8] [0,2,24,25] (stpN s [x.kind,x.asker,x.tm,x.ts] 4).2) w (.returned (.tuple #[])) w1) _
   change Made _ _ (Sem.run _ (execOp (Act.eval (Act.put (Act.put (frm _ _ _ []) (some 19) (vs 15)) (some 4) (vs 0))) _) _)
   obtain⟨hb1,q,hq,hbk,hqs⟩:=hS
   simp only[frm,h0,hq]
   have cM:=small_any (pre:=pre) (post:=post) (js:=[0,2,24,25]) (xs:=[x.kind,x.asker,x.tm,x.ts]) (HF.out.below hb1) ((show Hd E N t b pre post s.md w _ by rw[HM0.out];exact HH.out).below hb1) HO.out (show Bk w1 q 105 ([0,2,24,25].map fun j=>Value.pointer (some ⟨b,o+j,none⟩)).toArray from hbk) (by have:=HBL.out;omega) (nreader HF.out (by omega)) rfl (by decide) (idx4 rfl rfl rfl rfl) (by simp only[List.mem_cons,List.not_mem_nil,or_false,forall_eq_or_imp,forall_eq];exact⟨HX.out.1,HX.out.2.1,HX.out.2.2.1,HX.out.2.2.2.1⟩) (HFT0.out.mono (by unfold encIs;simp only[List.flatMap_cons,List.flatMap_nil,List.length_append,List.length_nil];omega)) (by decide)
   rw[← HGF.out] at cM
   have HB1:=lh hb1
   clear hvs hbk hq hqs hb1 h0
   go_simp
   exact made_call (cM.mono fun e w2 ⟨he,h1,h2,h3⟩=>⟨_,he,rfl,h1,h2,(Fr.ofBelow HB1.out).trans h3⟩)
 ·intro vs w5 hS hvs
  replace hS:(fun w1=>StP E N t b pre post (stpN s [x.kind,x.asker,x.tm,x.ts] 4).1 s.md (updI [.int .i64 x.kind,.int .u64 x.number,.int .i64 x.asker,.string x.name,.int .i64 x.ref.kind,.int .i64 x.ref.int,.int .i64 x.ref.owner,.int .u64 x.ref.number,.int .i64 x.ref.idm,.int .i64 x.ref.ids,.int .i64 x.ref.cls,.bool x.ref.weak,.int .i64 x.letter.idm,.int .i64 x.letter.ids,.string x.letter.meth,.slice A1 x.letter.args.length c1,.int .u64 x.parcel.number,.int .i64 x.parcel.idm,.int .i64 x.parcel.ids,.int .i64 x.parcel.kind,.int .i64 x.parcel.cls,.slice A2 x.parcel.fields.length c2,.slice A3 x.parcel.mail.length c3,.slice A4 x.parcel.watches.length c4,.int .i64 x.tm,.int .i64 x.ts,.int .i64 x.answer.machine,.int .i64 x.answer.owner,.int .u64 x.answer.number,.int .i64 x.answer.epoch,.bool x.answer.known,.bool x.answer.rooted,.int .i64 x.answer.last,.slice A5 x.answer.inset.length c5,.int .i64 x.claim.machine,.int .i64 x.claim.epoch,.slice A6 x.claim.stubs.length c6,.slice A7 x.claim.scions.length c7,.slice A8 x.claim.checks.length c8] [0,2,24,25] (stpN s [x.kind,x.asker,x.tm,x.ts] 4).2) w (.returned (.tuple #[])) w1) w5:=hS
  change wpList _ _ _ [] (Act.put (Act.put (Act.put (Act.put (Act.put (Act.put (Act.put (Act.put (Act.put (Act.put (Act.put (Act.put (Act.put (Act.put (Act.put (Act.put (Act.put (frm _ _ _ []) (some 20) (vs 16)) (some 19) (vs 15)) (some 18) (vs 14)) (some 17) (vs 13)) (some 16) (vs 12)) (some 15) (vs 11)) (some 14) (vs 10)) (some 13) (vs 9)) (some 12) (vs 8)) (some 11) (vs 7)) (some 10) (vs 6)) (some 9) (vs 5)) (some 8) (vs 4)) (some 7) (vs 3)) (some 6) (vs 2)) (some 5) (vs 1)) (some 4) (vs 0)) _
  simp only[frm]
  clear hvs
  generalize vs 0=z0
  generalize vs 1=z1
  generalize vs 2=z2
  generalize vs 3=z3
  generalize vs 4=z4
  generalize vs 5=z5
  generalize vs 6=z6
  generalize vs 7=z7
  generalize vs 8=z8
  generalize vs 9=z9
  generalize vs 10=z10
  generalize vs 11=z11
  generalize vs 12=z12
  generalize vs 13=z13
  generalize vs 14=z14
  generalize vs 15=z15
  generalize vs 16=z16
  obtain⟨_,hF5,hH5,hfr5⟩:=hS
  rw[stpN4 HQ0.out HQ1.out HQ2.out HQ3.out] at hF5 hH5
  rw[HM0.out] at hH5 hfr5
  replace hH5:Hd E N t b pre post m w5 [.int .i64 y0_,.int .u64 x.number,.int .i64 y1_,.string x.name,.int .i64 x.ref.kind,.int .i64 x.ref.int,.int .i64 x.ref.owner,.int .u64 x.ref.number,.int .i64 x.ref.idm,.int .i64 x.ref.ids,.int .i64 x.ref.cls,.bool x.ref.weak,.int .i64 x.letter.idm,.int .i64 x.letter.ids,.string x.letter.meth,.slice A1 x.letter.args.length c1,.int .u64 x.parcel.number,.int .i64 x.parcel.idm,.int .i64 x.parcel.ids,.int .i64 x.parcel.kind,.int .i64 x.parcel.cls,.slice A2 x.parcel.fields.length c2,.slice A3 x.parcel.mail.length c3,.slice A4 x.parcel.watches.length c4,.int .i64 y2_,.int .i64 y3_,.int .i64 x.answer.machine,.int .i64 x.answer.owner,.int .u64 x.answer.number,.int .i64 x.answer.epoch,.bool x.answer.known,.bool x.answer.rooted,.int .i64 x.answer.last,.slice A5 x.answer.inset.length c5,.int .i64 x.claim.machine,.int .i64 x.claim.epoch,.slice A6 x.claim.stubs.length c6,.slice A7 x.claim.scions.length c7,.slice A8 x.claim.checks.length c8]:=hH5
  replace hF5:Fm E N w5 s3_:=hF5
  have HL0_largs:=lh (LsR.fr (flat_rk rfC) HL_largs.out HF.out HM0.out HH.out hfr5 HT.out.1 (id) (by decide) (by decide))
  have HL0_pf:=lh (LsR.fr (flat_rk rfC) HL_pf.out HF.out HM0.out HH.out hfr5 HT.out.1 (id) (by decide) (by decide))
  have HL0_pm:=lh (LsR.fr ltR_rk HL_pm.out HF.out HM0.out HH.out hfr5 HT.out.2.1 (HT.out.1) (by decide) (by show ¬ (_:TypeId)=_;decide))
  have HL0_pw:=lh (LsR.fr (flat_rk waC) HL_pw.out HF.out HM0.out HH.out hfr5 HT.out.2.2.1 (id) (by decide) (by decide))
  have HL0_ai:=lh (LsR.fr (flat_rk inC) HL_ai.out HF.out HM0.out HH.out hfr5 HT.out.2.2.2.1 (id) (by decide) (by decide))
  have HL0_ks:=lh (LsR.fr (flat_rk ndC) HL_ks.out HF.out HM0.out HH.out hfr5 HT.out.2.2.2.2 (id) (by decide) (by decide))
  have HL0_kc:=lh (LsR.fr (flat_rk ndC) HL_kc.out HF.out HM0.out HH.out hfr5 HT.out.2.2.2.2 (id) (by decide) (by decide))
  have HL0_kk:=lh (LsR.fr (flat_rk ndC) HL_kk.out HF.out HM0.out HH.out hfr5 HT.out.2.2.2.2 (id) (by decide) (by decide))
  have HF0_:=lh hF5
  have HH0_:=lh hH5
  have HFR0_:=lh hfr5
  clear hF5 hH5 hfr5
  have cM1:=Num_any (x:=x.number) (pre:=pre++[.int .i64 y0_]) (post:=[.int .i64 y1_,.string x.name,.int .i64 x.ref.kind,.int .i64 x.ref.int,.int .i64 x.ref.owner,.int .u64 x.ref.number,.int .i64 x.ref.idm,.int .i64 x.ref.ids,.int .i64 x.ref.cls,.bool x.ref.weak,.int .i64 x.letter.idm,.int .i64 x.letter.ids,.string x.letter.meth,.slice A1 x.letter.args.length c1,.int .u64 x.parcel.number,.int .i64 x.parcel.idm,.int .i64 x.parcel.ids,.int .i64 x.parcel.kind,.int .i64 x.parcel.cls,.slice A2 x.parcel.fields.length c2,.slice A3 x.parcel.mail.length c3,.slice A4 x.parcel.watches.length c4,.int .i64 y2_,.int .i64 y3_,.int .i64 x.answer.machine,.int .i64 x.answer.owner,.int .u64 x.answer.number,.int .i64 x.answer.epoch,.bool x.answer.known,.bool x.answer.rooted,.int .i64 x.answer.last,.slice A5 x.answer.inset.length c5,.int .i64 x.claim.machine,.int .i64 x.claim.epoch,.slice A6 x.claim.stubs.length c6,.slice A7 x.claim.scions.length c7,.slice A8 x.claim.checks.length c8]++post) (o:=o+1) HF0_.out (show Hd E N t b (pre++[.int .i64 y0_]) ([.int .i64 y1_,.string x.name,.int .i64 x.ref.kind,.int .i64 x.ref.int,.int .i64 x.ref.owner,.int .u64 x.ref.number,.int .i64 x.ref.idm,.int .i64 x.ref.ids,.int .i64 x.ref.cls,.bool x.ref.weak,.int .i64 x.letter.idm,.int .i64 x.letter.ids,.string x.letter.meth,.slice A1 x.letter.args.length c1,.int .u64 x.parcel.number,.int .i64 x.parcel.idm,.int .i64 x.parcel.ids,.int .i64 x.parcel.kind,.int .i64 x.parcel.cls,.slice A2 x.parcel.fields.length c2,.slice A3 x.parcel.mail.length c3,.slice A4 x.parcel.watches.length c4,.int .i64 y2_,.int .i64 y3_,.int .i64 x.answer.machine,.int .i64 x.answer.owner,.int .u64 x.answer.number,.int .i64 x.answer.epoch,.bool x.answer.known,.bool x.answer.rooted,.int .i64 x.answer.last,.slice A5 x.answer.inset.length c5,.int .i64 x.claim.machine,.int .i64 x.claim.epoch,.slice A6 x.claim.stubs.length c6,.slice A7 x.claim.scions.length c7,.slice A8 x.claim.checks.length c8]++post) s3_.md w5 [.int .u64 x.number] by rw[HM4.out];exact Hd.sub (r1:=[.int .i64 y0_]) (r2:=[.int .u64 x.number]) (r3:=[.int .i64 y1_,.string x.name,.int .i64 x.ref.kind,.int .i64 x.ref.int,.int .i64 x.ref.owner,.int .u64 x.ref.number,.int .i64 x.ref.idm,.int .i64 x.ref.ids,.int .i64 x.ref.cls,.bool x.ref.weak,.int .i64 x.letter.idm,.int .i64 x.letter.ids,.string x.letter.meth,.slice A1 x.letter.args.length c1,.int .u64 x.parcel.number,.int .i64 x.parcel.idm,.int .i64 x.parcel.ids,.int .i64 x.parcel.kind,.int .i64 x.parcel.cls,.slice A2 x.parcel.fields.length c2,.slice A3 x.parcel.mail.length c3,.slice A4 x.parcel.watches.length c4,.int .i64 y2_,.int .i64 y3_,.int .i64 x.answer.machine,.int .i64 x.answer.owner,.int .u64 x.answer.number,.int .i64 x.answer.epoch,.bool x.answer.known,.bool x.answer.rooted,.int .i64 x.answer.last,.slice A5 x.answer.inset.length c5,.int .i64 x.claim.machine,.int .i64 x.claim.epoch,.slice A6 x.claim.stubs.length c6,.slice A7 x.claim.scions.length c7,.slice A8 x.claim.checks.length c8]) HH0_.out) (by rw[List.length_append,HO.out];rfl) (HX.out.2.2.2.2.1) (HFT4.out.mono (by omega))
  rw[← HQ4.out,HM4.out,← HGF.out] at cM1
  try dsimp only at cM1
  go_wp2_with fail
  refine cM1.mono ?_
  rintro e u1_ ⟨rfl,hF5,hH5,hfr5⟩
  have hHH:Hd E N t b pre post m u1_ [.int .i64 y0_,.int .u64 y4_,.int .i64 y1_,.string x.name,.int .i64 x.ref.kind,.int .i64 x.ref.int,.int .i64 x.ref.owner,.int .u64 x.ref.number,.int .i64 x.ref.idm,.int .i64 x.ref.ids,.int .i64 x.ref.cls,.bool x.ref.weak,.int .i64 x.letter.idm,.int .i64 x.letter.ids,.string x.letter.meth,.slice A1 x.letter.args.length c1,.int .u64 x.parcel.number,.int .i64 x.parcel.idm,.int .i64 x.parcel.ids,.int .i64 x.parcel.kind,.int .i64 x.parcel.cls,.slice A2 x.parcel.fields.length c2,.slice A3 x.parcel.mail.length c3,.slice A4 x.parcel.watches.length c4,.int .i64 y2_,.int .i64 y3_,.int .i64 x.answer.machine,.int .i64 x.answer.owner,.int .u64 x.answer.number,.int .i64 x.answer.epoch,.bool x.answer.known,.bool x.answer.rooted,.int .i64 x.answer.last,.slice A5 x.answer.inset.length c5,.int .i64 x.claim.machine,.int .i64 x.claim.epoch,.slice A6 x.claim.stubs.length c6,.slice A7 x.claim.scions.length c7,.slice A8 x.claim.checks.length c8]:=Hd.back (r1:=[.int .i64 y0_]) (r2:=[.int .u64 x.number]) (r3:=[.int .i64 y1_,.string x.name,.int .i64 x.ref.kind,.int .i64 x.ref.int,.int .i64 x.ref.owner,.int .u64 x.ref.number,.int .i64 x.ref.idm,.int .i64 x.ref.ids,.int .i64 x.ref.cls,.bool x.ref.weak,.int .i64 x.letter.idm,.int .i64 x.letter.ids,.string x.letter.meth,.slice A1 x.letter.args.length c1,.int .u64 x.parcel.number,.int .i64 x.parcel.idm,.int .i64 x.parcel.ids,.int .i64 x.parcel.kind,.int .i64 x.parcel.cls,.slice A2 x.parcel.fields.length c2,.slice A3 x.parcel.mail.length c3,.slice A4 x.parcel.watches.length c4,.int .i64 y2_,.int .i64 y3_,.int .i64 x.answer.machine,.int .i64 x.answer.owner,.int .u64 x.answer.number,.int .i64 x.answer.epoch,.bool x.answer.known,.bool x.answer.rooted,.int .i64 x.answer.last,.slice A5 x.answer.inset.length c5,.int .i64 x.claim.machine,.int .i64 x.claim.epoch,.slice A6 x.claim.stubs.length c6,.slice A7 x.claim.scions.length c7,.slice A8 x.claim.checks.length c8]) (r2':=[.int .u64 y4_]) HH0_.out hfr5 rfl hH5
  have HL1_largs:=lh (LsR.fr (flat_rk rfC) HL0_largs.out HF0_.out HM4.out HH0_.out hfr5 HT.out.1 (id) (by decide) (by decide))
  have HL1_pf:=lh (LsR.fr (flat_rk rfC) HL0_pf.out HF0_.out HM4.out HH0_.out hfr5 HT.out.1 (id) (by decide) (by decide))
  have HL1_pm:=lh (LsR.fr ltR_rk HL0_pm.out HF0_.out HM4.out HH0_.out hfr5 HT.out.2.1 (HT.out.1) (by decide) (by show ¬ (_:TypeId)=_;decide))
  have HL1_pw:=lh (LsR.fr (flat_rk waC) HL0_pw.out HF0_.out HM4.out HH0_.out hfr5 HT.out.2.2.1 (id) (by decide) (by decide))
  have HL1_ai:=lh (LsR.fr (flat_rk inC) HL0_ai.out HF0_.out HM4.out HH0_.out hfr5 HT.out.2.2.2.1 (id) (by decide) (by decide))
  have HL1_ks:=lh (LsR.fr (flat_rk ndC) HL0_ks.out HF0_.out HM4.out HH0_.out hfr5 HT.out.2.2.2.2 (id) (by decide) (by decide))
  have HL1_kc:=lh (LsR.fr (flat_rk ndC) HL0_kc.out HF0_.out HM4.out HH0_.out hfr5 HT.out.2.2.2.2 (id) (by decide) (by decide))
  have HL1_kk:=lh (LsR.fr (flat_rk ndC) HL0_kk.out HF0_.out HM4.out HH0_.out hfr5 HT.out.2.2.2.2 (id) (by decide) (by decide))
  have HF1_:=lh hF5
  have HH1_:=lh hHH
  have HFR1_:=lh (HFR0_.out.trans hfr5)
  clear cM1 hF5 hH5 hfr5 hHH
  have cM2:=Txt_any (x:=x.name) (pre:=pre++[.int .i64 y0_,.int .u64 y4_,.int .i64 y1_]) (post:=[.int .i64 x.ref.kind,.int .i64 x.ref.int,.int .i64 x.ref.owner,.int .u64 x.ref.number,.int .i64 x.ref.idm,.int .i64 x.ref.ids,.int .i64 x.ref.cls,.bool x.ref.weak,.int .i64 x.letter.idm,.int .i64 x.letter.ids,.string x.letter.meth,.slice A1 x.letter.args.length c1,.int .u64 x.parcel.number,.int .i64 x.parcel.idm,.int .i64 x.parcel.ids,.int .i64 x.parcel.kind,.int .i64 x.parcel.cls,.slice A2 x.parcel.fields.length c2,.slice A3 x.parcel.mail.length c3,.slice A4 x.parcel.watches.length c4,.int .i64 y2_,.int .i64 y3_,.int .i64 x.answer.machine,.int .i64 x.answer.owner,.int .u64 x.answer.number,.int .i64 x.answer.epoch,.bool x.answer.known,.bool x.answer.rooted,.int .i64 x.answer.last,.slice A5 x.answer.inset.length c5,.int .i64 x.claim.machine,.int .i64 x.claim.epoch,.slice A6 x.claim.stubs.length c6,.slice A7 x.claim.scions.length c7,.slice A8 x.claim.checks.length c8]++post) (o:=o+3) HF1_.out (show Hd E N t b (pre++[.int .i64 y0_,.int .u64 y4_,.int .i64 y1_]) ([.int .i64 x.ref.kind,.int .i64 x.ref.int,.int .i64 x.ref.owner,.int .u64 x.ref.number,.int .i64 x.ref.idm,.int .i64 x.ref.ids,.int .i64 x.ref.cls,.bool x.ref.weak,.int .i64 x.letter.idm,.int .i64 x.letter.ids,.string x.letter.meth,.slice A1 x.letter.args.length c1,.int .u64 x.parcel.number,.int .i64 x.parcel.idm,.int .i64 x.parcel.ids,.int .i64 x.parcel.kind,.int .i64 x.parcel.cls,.slice A2 x.parcel.fields.length c2,.slice A3 x.parcel.mail.length c3,.slice A4 x.parcel.watches.length c4,.int .i64 y2_,.int .i64 y3_,.int .i64 x.answer.machine,.int .i64 x.answer.owner,.int .u64 x.answer.number,.int .i64 x.answer.epoch,.bool x.answer.known,.bool x.answer.rooted,.int .i64 x.answer.last,.slice A5 x.answer.inset.length c5,.int .i64 x.claim.machine,.int .i64 x.claim.epoch,.slice A6 x.claim.stubs.length c6,.slice A7 x.claim.scions.length c7,.slice A8 x.claim.checks.length c8]++post) s4_.md u1_ [.string x.name] by rw[HM5.out];exact Hd.sub (r1:=[.int .i64 y0_,.int .u64 y4_,.int .i64 y1_]) (r2:=[.string x.name]) (r3:=[.int .i64 x.ref.kind,.int .i64 x.ref.int,.int .i64 x.ref.owner,.int .u64 x.ref.number,.int .i64 x.ref.idm,.int .i64 x.ref.ids,.int .i64 x.ref.cls,.bool x.ref.weak,.int .i64 x.letter.idm,.int .i64 x.letter.ids,.string x.letter.meth,.slice A1 x.letter.args.length c1,.int .u64 x.parcel.number,.int .i64 x.parcel.idm,.int .i64 x.parcel.ids,.int .i64 x.parcel.kind,.int .i64 x.parcel.cls,.slice A2 x.parcel.fields.length c2,.slice A3 x.parcel.mail.length c3,.slice A4 x.parcel.watches.length c4,.int .i64 y2_,.int .i64 y3_,.int .i64 x.answer.machine,.int .i64 x.answer.owner,.int .u64 x.answer.number,.int .i64 x.answer.epoch,.bool x.answer.known,.bool x.answer.rooted,.int .i64 x.answer.last,.slice A5 x.answer.inset.length c5,.int .i64 x.claim.machine,.int .i64 x.claim.epoch,.slice A6 x.claim.stubs.length c6,.slice A7 x.claim.scions.length c7,.slice A8 x.claim.checks.length c8]) HH1_.out) (by rw[List.length_append,HO.out];rfl) (trivial) (HFT5.out.mono (by omega))
  rw[← HQ5.out,HM5.out,← HGF.out] at cM2
  try dsimp only at cM2
  go_wp2_with fail
  refine cM2.mono ?_
  rintro e u2_ ⟨rfl,hF5,hH5,hfr5⟩
  have hHH:Hd E N t b pre post m u2_ [.int .i64 y0_,.int .u64 y4_,.int .i64 y1_,.string y5_,.int .i64 x.ref.kind,.int .i64 x.ref.int,.int .i64 x.ref.owner,.int .u64 x.ref.number,.int .i64 x.ref.idm,.int .i64 x.ref.ids,.int .i64 x.ref.cls,.bool x.ref.weak,.int .i64 x.letter.idm,.int .i64 x.letter.ids,.string x.letter.meth,.slice A1 x.letter.args.length c1,.int .u64 x.parcel.number,.int .i64 x.parcel.idm,.int .i64 x.parcel.ids,.int .i64 x.parcel.kind,.int .i64 x.parcel.cls,.slice A2 x.parcel.fields.length c2,.slice A3 x.parcel.mail.length c3,.slice A4 x.parcel.watches.length c4,.int .i64 y2_,.int .i64 y3_,.int .i64 x.answer.machine,.int .i64 x.answer.owner,.int .u64 x.answer.number,.int .i64 x.answer.epoch,.bool x.answer.known,.bool x.answer.rooted,.int .i64 x.answer.last,.slice A5 x.answer.inset.length c5,.int .i64 x.claim.machine,.int .i64 x.claim.epoch,.slice A6 x.claim.stubs.length c6,.slice A7 x.claim.scions.length c7,.slice A8 x.claim.checks.length c8]:=Hd.back (r1:=[.int .i64 y0_,.int .u64 y4_,.int .i64 y1_]) (r2:=[.string x.name]) (r3:=[.int .i64 x.ref.kind,.int .i64 x.ref.int,.int .i64 x.ref.owner,.int .u64 x.ref.number,.int .i64 x.ref.idm,.int .i64 x.ref.ids,.int .i64 x.ref.cls,.bool x.ref.weak,.int .i64 x.letter.idm,.int .i64 x.letter.ids,.string x.letter.meth,.slice A1 x.letter.args.length c1,.int .u64 x.parcel.number,.int .i64 x.parcel.idm,.int .i64 x.parcel.ids,.int .i64 x.parcel.kind,.int .i64 x.parcel.cls,.slice A2 x.parcel.fields.length c2,.slice A3 x.parcel.mail.length c3,.slice A4 x.parcel.watches.length c4,.int .i64 y2_,.int .i64 y3_,.int .i64 x.answer.machine,.int .i64 x.answer.owner,.int .u64 x.answer.number,.int .i64 x.answer.epoch,.bool x.answer.known,.bool x.answer.rooted,.int .i64 x.answer.last,.slice A5 x.answer.inset.length c5,.int .i64 x.claim.machine,.int .i64 x.claim.epoch,.slice A6 x.claim.stubs.length c6,.slice A7 x.claim.scions.length c7,.slice A8 x.claim.checks.length c8]) (r2':=[.string y5_]) HH1_.out hfr5 rfl hH5
  have HL2_largs:=lh (LsR.fr (flat_rk rfC) HL1_largs.out HF1_.out HM5.out HH1_.out hfr5 HT.out.1 (id) (by decide) (by decide))
  have HL2_pf:=lh (LsR.fr (flat_rk rfC) HL1_pf.out HF1_.out HM5.out HH1_.out hfr5 HT.out.1 (id) (by decide) (by decide))
  have HL2_pm:=lh (LsR.fr ltR_rk HL1_pm.out HF1_.out HM5.out HH1_.out hfr5 HT.out.2.1 (HT.out.1) (by decide) (by show ¬ (_:TypeId)=_;decide))
  have HL2_pw:=lh (LsR.fr (flat_rk waC) HL1_pw.out HF1_.out HM5.out HH1_.out hfr5 HT.out.2.2.1 (id) (by decide) (by decide))
  have HL2_ai:=lh (LsR.fr (flat_rk inC) HL1_ai.out HF1_.out HM5.out HH1_.out hfr5 HT.out.2.2.2.1 (id) (by decide) (by decide))
  have HL2_ks:=lh (LsR.fr (flat_rk ndC) HL1_ks.out HF1_.out HM5.out HH1_.out hfr5 HT.out.2.2.2.2 (id) (by decide) (by decide))
  have HL2_kc:=lh (LsR.fr (flat_rk ndC) HL1_kc.out HF1_.out HM5.out HH1_.out hfr5 HT.out.2.2.2.2 (id) (by decide) (by decide))
  have HL2_kk:=lh (LsR.fr (flat_rk ndC) HL1_kk.out HF1_.out HM5.out HH1_.out hfr5 HT.out.2.2.2.2 (id) (by decide) (by decide))
  have HF2_:=lh hF5
  have HH2_:=lh hHH
  have HFR2_:=lh (HFR1_.out.trans hfr5)
  clear cM2 hF5 hH5 hfr5 hHH
  have cM3:=ref_any (x:=x.ref) (pre:=pre++[.int .i64 y0_,.int .u64 y4_,.int .i64 y1_,.string y5_]) (post:=[.int .i64 x.letter.idm,.int .i64 x.letter.ids,.string x.letter.meth,.slice A1 x.letter.args.length c1,.int .u64 x.parcel.number,.int .i64 x.parcel.idm,.int .i64 x.parcel.ids,.int .i64 x.parcel.kind,.int .i64 x.parcel.cls,.slice A2 x.parcel.fields.length c2,.slice A3 x.parcel.mail.length c3,.slice A4 x.parcel.watches.length c4,.int .i64 y2_,.int .i64 y3_,.int .i64 x.answer.machine,.int .i64 x.answer.owner,.int .u64 x.answer.number,.int .i64 x.answer.epoch,.bool x.answer.known,.bool x.answer.rooted,.int .i64 x.answer.last,.slice A5 x.answer.inset.length c5,.int .i64 x.claim.machine,.int .i64 x.claim.epoch,.slice A6 x.claim.stubs.length c6,.slice A7 x.claim.scions.length c7,.slice A8 x.claim.checks.length c8]++post) (o:=o+4) HF2_.out (show Hd E N t b (pre++[.int .i64 y0_,.int .u64 y4_,.int .i64 y1_,.string y5_]) ([.int .i64 x.letter.idm,.int .i64 x.letter.ids,.string x.letter.meth,.slice A1 x.letter.args.length c1,.int .u64 x.parcel.number,.int .i64 x.parcel.idm,.int .i64 x.parcel.ids,.int .i64 x.parcel.kind,.int .i64 x.parcel.cls,.slice A2 x.parcel.fields.length c2,.slice A3 x.parcel.mail.length c3,.slice A4 x.parcel.watches.length c4,.int .i64 y2_,.int .i64 y3_,.int .i64 x.answer.machine,.int .i64 x.answer.owner,.int .u64 x.answer.number,.int .i64 x.answer.epoch,.bool x.answer.known,.bool x.answer.rooted,.int .i64 x.answer.last,.slice A5 x.answer.inset.length c5,.int .i64 x.claim.machine,.int .i64 x.claim.epoch,.slice A6 x.claim.stubs.length c6,.slice A7 x.claim.scions.length c7,.slice A8 x.claim.checks.length c8]++post) s5_.md u2_ [.int .i64 x.ref.kind,.int .i64 x.ref.int,.int .i64 x.ref.owner,.int .u64 x.ref.number,.int .i64 x.ref.idm,.int .i64 x.ref.ids,.int .i64 x.ref.cls,.bool x.ref.weak] by rw[HM6.out];exact Hd.sub (r1:=[.int .i64 y0_,.int .u64 y4_,.int .i64 y1_,.string y5_]) (r2:=[.int .i64 x.ref.kind,.int .i64 x.ref.int,.int .i64 x.ref.owner,.int .u64 x.ref.number,.int .i64 x.ref.idm,.int .i64 x.ref.ids,.int .i64 x.ref.cls,.bool x.ref.weak]) (r3:=[.int .i64 x.letter.idm,.int .i64 x.letter.ids,.string x.letter.meth,.slice A1 x.letter.args.length c1,.int .u64 x.parcel.number,.int .i64 x.parcel.idm,.int .i64 x.parcel.ids,.int .i64 x.parcel.kind,.int .i64 x.parcel.cls,.slice A2 x.parcel.fields.length c2,.slice A3 x.parcel.mail.length c3,.slice A4 x.parcel.watches.length c4,.int .i64 y2_,.int .i64 y3_,.int .i64 x.answer.machine,.int .i64 x.answer.owner,.int .u64 x.answer.number,.int .i64 x.answer.epoch,.bool x.answer.known,.bool x.answer.rooted,.int .i64 x.answer.last,.slice A5 x.answer.inset.length c5,.int .i64 x.claim.machine,.int .i64 x.claim.epoch,.slice A6 x.claim.stubs.length c6,.slice A7 x.claim.scions.length c7,.slice A8 x.claim.checks.length c8]) HH2_.out) (by rw[List.length_append,HO.out];rfl) (HX.out.2.2.2.2.2.2.1) (HFT6.out.mono (by omega))
  rw[← HQ6.out,HM6.out,← HGF.out] at cM3
  try dsimp only at cM3
  go_wp2_with fail
  refine cM3.mono ?_
  rintro e u3_ ⟨rfl,hF5,hH5,hfr5⟩
  have hHH:Hd E N t b pre post m u3_ [.int .i64 y0_,.int .u64 y4_,.int .i64 y1_,.string y5_,.int .i64 y6_.kind,.int .i64 y6_.int,.int .i64 y6_.owner,.int .u64 y6_.number,.int .i64 y6_.idm,.int .i64 y6_.ids,.int .i64 y6_.cls,.bool y6_.weak,.int .i64 x.letter.idm,.int .i64 x.letter.ids,.string x.letter.meth,.slice A1 x.letter.args.length c1,.int .u64 x.parcel.number,.int .i64 x.parcel.idm,.int .i64 x.parcel.ids,.int .i64 x.parcel.kind,.int .i64 x.parcel.cls,.slice A2 x.parcel.fields.length c2,.slice A3 x.parcel.mail.length c3,.slice A4 x.parcel.watches.length c4,.int .i64 y2_,.int .i64 y3_,.int .i64 x.answer.machine,.int .i64 x.answer.owner,.int .u64 x.answer.number,.int .i64 x.answer.epoch,.bool x.answer.known,.bool x.answer.rooted,.int .i64 x.answer.last,.slice A5 x.answer.inset.length c5,.int .i64 x.claim.machine,.int .i64 x.claim.epoch,.slice A6 x.claim.stubs.length c6,.slice A7 x.claim.scions.length c7,.slice A8 x.claim.checks.length c8]:=Hd.back (r1:=[.int .i64 y0_,.int .u64 y4_,.int .i64 y1_,.string y5_]) (r2:=[.int .i64 x.ref.kind,.int .i64 x.ref.int,.int .i64 x.ref.owner,.int .u64 x.ref.number,.int .i64 x.ref.idm,.int .i64 x.ref.ids,.int .i64 x.ref.cls,.bool x.ref.weak]) (r3:=[.int .i64 x.letter.idm,.int .i64 x.letter.ids,.string x.letter.meth,.slice A1 x.letter.args.length c1,.int .u64 x.parcel.number,.int .i64 x.parcel.idm,.int .i64 x.parcel.ids,.int .i64 x.parcel.kind,.int .i64 x.parcel.cls,.slice A2 x.parcel.fields.length c2,.slice A3 x.parcel.mail.length c3,.slice A4 x.parcel.watches.length c4,.int .i64 y2_,.int .i64 y3_,.int .i64 x.answer.machine,.int .i64 x.answer.owner,.int .u64 x.answer.number,.int .i64 x.answer.epoch,.bool x.answer.known,.bool x.answer.rooted,.int .i64 x.answer.last,.slice A5 x.answer.inset.length c5,.int .i64 x.claim.machine,.int .i64 x.claim.epoch,.slice A6 x.claim.stubs.length c6,.slice A7 x.claim.scions.length c7,.slice A8 x.claim.checks.length c8]) (r2':=[.int .i64 y6_.kind,.int .i64 y6_.int,.int .i64 y6_.owner,.int .u64 y6_.number,.int .i64 y6_.idm,.int .i64 y6_.ids,.int .i64 y6_.cls,.bool y6_.weak]) HH2_.out hfr5 rfl hH5
  have HL3_largs:=lh (LsR.fr (flat_rk rfC) HL2_largs.out HF2_.out HM6.out HH2_.out hfr5 HT.out.1 (id) (by decide) (by decide))
  have HL3_pf:=lh (LsR.fr (flat_rk rfC) HL2_pf.out HF2_.out HM6.out HH2_.out hfr5 HT.out.1 (id) (by decide) (by decide))
  have HL3_pm:=lh (LsR.fr ltR_rk HL2_pm.out HF2_.out HM6.out HH2_.out hfr5 HT.out.2.1 (HT.out.1) (by decide) (by show ¬ (_:TypeId)=_;decide))
  have HL3_pw:=lh (LsR.fr (flat_rk waC) HL2_pw.out HF2_.out HM6.out HH2_.out hfr5 HT.out.2.2.1 (id) (by decide) (by decide))
  have HL3_ai:=lh (LsR.fr (flat_rk inC) HL2_ai.out HF2_.out HM6.out HH2_.out hfr5 HT.out.2.2.2.1 (id) (by decide) (by decide))
  have HL3_ks:=lh (LsR.fr (flat_rk ndC) HL2_ks.out HF2_.out HM6.out HH2_.out hfr5 HT.out.2.2.2.2 (id) (by decide) (by decide))
  have HL3_kc:=lh (LsR.fr (flat_rk ndC) HL2_kc.out HF2_.out HM6.out HH2_.out hfr5 HT.out.2.2.2.2 (id) (by decide) (by decide))
  have HL3_kk:=lh (LsR.fr (flat_rk ndC) HL2_kk.out HF2_.out HM6.out HH2_.out hfr5 HT.out.2.2.2.2 (id) (by decide) (by decide))
  have HF3_:=lh hF5
  have HH3_:=lh hHH
  have HFR3_:=lh (HFR2_.out.trans hfr5)
  clear cM3 hF5 hH5 hfr5 hHH
  have cM4:=letter_any (x:=x.letter) (r:=[.int .i64 x.letter.idm,.int .i64 x.letter.ids,.string x.letter.meth,.slice A1 x.letter.args.length c1]) (pre:=pre++[.int .i64 y0_,.int .u64 y4_,.int .i64 y1_,.string y5_,.int .i64 y6_.kind,.int .i64 y6_.int,.int .i64 y6_.owner,.int .u64 y6_.number,.int .i64 y6_.idm,.int .i64 y6_.ids,.int .i64 y6_.cls,.bool y6_.weak]) (post:=[.int .u64 x.parcel.number,.int .i64 x.parcel.idm,.int .i64 x.parcel.ids,.int .i64 x.parcel.kind,.int .i64 x.parcel.cls,.slice A2 x.parcel.fields.length c2,.slice A3 x.parcel.mail.length c3,.slice A4 x.parcel.watches.length c4,.int .i64 y2_,.int .i64 y3_,.int .i64 x.answer.machine,.int .i64 x.answer.owner,.int .u64 x.answer.number,.int .i64 x.answer.epoch,.bool x.answer.known,.bool x.answer.rooted,.int .i64 x.answer.last,.slice A5 x.answer.inset.length c5,.int .i64 x.claim.machine,.int .i64 x.claim.epoch,.slice A6 x.claim.stubs.length c6,.slice A7 x.claim.scions.length c7,.slice A8 x.claim.checks.length c8]++post) (o:=o+12) HF3_.out (show LtR s6_.md N u3_ x.letter [.int .i64 x.letter.idm,.int .i64 x.letter.ids,.string x.letter.meth,.slice A1 x.letter.args.length c1] by rw[HM7.out];exact⟨A1,c1,rfl,HL3_largs.out⟩) (show Hd E N t b (pre++[.int .i64 y0_,.int .u64 y4_,.int .i64 y1_,.string y5_,.int .i64 y6_.kind,.int .i64 y6_.int,.int .i64 y6_.owner,.int .u64 y6_.number,.int .i64 y6_.idm,.int .i64 y6_.ids,.int .i64 y6_.cls,.bool y6_.weak]) ([.int .u64 x.parcel.number,.int .i64 x.parcel.idm,.int .i64 x.parcel.ids,.int .i64 x.parcel.kind,.int .i64 x.parcel.cls,.slice A2 x.parcel.fields.length c2,.slice A3 x.parcel.mail.length c3,.slice A4 x.parcel.watches.length c4,.int .i64 y2_,.int .i64 y3_,.int .i64 x.answer.machine,.int .i64 x.answer.owner,.int .u64 x.answer.number,.int .i64 x.answer.epoch,.bool x.answer.known,.bool x.answer.rooted,.int .i64 x.answer.last,.slice A5 x.answer.inset.length c5,.int .i64 x.claim.machine,.int .i64 x.claim.epoch,.slice A6 x.claim.stubs.length c6,.slice A7 x.claim.scions.length c7,.slice A8 x.claim.checks.length c8]++post) s6_.md u3_ [.int .i64 x.letter.idm,.int .i64 x.letter.ids,.string x.letter.meth,.slice A1 x.letter.args.length c1] by rw[HM7.out];exact Hd.sub (r1:=[.int .i64 y0_,.int .u64 y4_,.int .i64 y1_,.string y5_,.int .i64 y6_.kind,.int .i64 y6_.int,.int .i64 y6_.owner,.int .u64 y6_.number,.int .i64 y6_.idm,.int .i64 y6_.ids,.int .i64 y6_.cls,.bool y6_.weak]) (r2:=[.int .i64 x.letter.idm,.int .i64 x.letter.ids,.string x.letter.meth,.slice A1 x.letter.args.length c1]) (r3:=[.int .u64 x.parcel.number,.int .i64 x.parcel.idm,.int .i64 x.parcel.ids,.int .i64 x.parcel.kind,.int .i64 x.parcel.cls,.slice A2 x.parcel.fields.length c2,.slice A3 x.parcel.mail.length c3,.slice A4 x.parcel.watches.length c4,.int .i64 y2_,.int .i64 y3_,.int .i64 x.answer.machine,.int .i64 x.answer.owner,.int .u64 x.answer.number,.int .i64 x.answer.epoch,.bool x.answer.known,.bool x.answer.rooted,.int .i64 x.answer.last,.slice A5 x.answer.inset.length c5,.int .i64 x.claim.machine,.int .i64 x.claim.epoch,.slice A6 x.claim.stubs.length c6,.slice A7 x.claim.scions.length c7,.slice A8 x.claim.checks.length c8]) HH3_.out) (by rw[List.length_append,HO.out];rfl) (fun h=>by
    obtain⟨h1,h2⟩:=HZX.out (by rw[HM0.out];rw[HM7.out] at h;exact h)
    subst h2
    simp only[List.cons.injEq,Value.slice.injEq] at h1
    simp[h1,Ms.zero,Lt.zero]) HT.out.1 (HX.out.2.2.2.2.2.2.2.1) (HFT7.out.mono (by omega))
  rw[← HQ7.out,HM7.out,← HGF.out] at cM4
  try dsimp only at cM4
  go_wp2_with fail
  refine cM4.mono ?_
  rintro e u4_ ⟨rfl,hF5,⟨r9_,⟨A4_largs,c4_largs,rfl,hl5_largs⟩,hH5⟩,hfr5⟩
  have hHH:Hd E N t b pre post m u4_ [.int .i64 y0_,.int .u64 y4_,.int .i64 y1_,.string y5_,.int .i64 y6_.kind,.int .i64 y6_.int,.int .i64 y6_.owner,.int .u64 y6_.number,.int .i64 y6_.idm,.int .i64 y6_.ids,.int .i64 y6_.cls,.bool y6_.weak,.int .i64 y7_.idm,.int .i64 y7_.ids,.string y7_.meth,.slice A4_largs y7_.args.length c4_largs,.int .u64 x.parcel.number,.int .i64 x.parcel.idm,.int .i64 x.parcel.ids,.int .i64 x.parcel.kind,.int .i64 x.parcel.cls,.slice A2 x.parcel.fields.length c2,.slice A3 x.parcel.mail.length c3,.slice A4 x.parcel.watches.length c4,.int .i64 y2_,.int .i64 y3_,.int .i64 x.answer.machine,.int .i64 x.answer.owner,.int .u64 x.answer.number,.int .i64 x.answer.epoch,.bool x.answer.known,.bool x.answer.rooted,.int .i64 x.answer.last,.slice A5 x.answer.inset.length c5,.int .i64 x.claim.machine,.int .i64 x.claim.epoch,.slice A6 x.claim.stubs.length c6,.slice A7 x.claim.scions.length c7,.slice A8 x.claim.checks.length c8]:=Hd.back (r1:=[.int .i64 y0_,.int .u64 y4_,.int .i64 y1_,.string y5_,.int .i64 y6_.kind,.int .i64 y6_.int,.int .i64 y6_.owner,.int .u64 y6_.number,.int .i64 y6_.idm,.int .i64 y6_.ids,.int .i64 y6_.cls,.bool y6_.weak]) (r2:=[.int .i64 x.letter.idm,.int .i64 x.letter.ids,.string x.letter.meth,.slice A1 x.letter.args.length c1]) (r3:=[.int .u64 x.parcel.number,.int .i64 x.parcel.idm,.int .i64 x.parcel.ids,.int .i64 x.parcel.kind,.int .i64 x.parcel.cls,.slice A2 x.parcel.fields.length c2,.slice A3 x.parcel.mail.length c3,.slice A4 x.parcel.watches.length c4,.int .i64 y2_,.int .i64 y3_,.int .i64 x.answer.machine,.int .i64 x.answer.owner,.int .u64 x.answer.number,.int .i64 x.answer.epoch,.bool x.answer.known,.bool x.answer.rooted,.int .i64 x.answer.last,.slice A5 x.answer.inset.length c5,.int .i64 x.claim.machine,.int .i64 x.claim.epoch,.slice A6 x.claim.stubs.length c6,.slice A7 x.claim.scions.length c7,.slice A8 x.claim.checks.length c8]) (r2':=[.int .i64 y7_.idm,.int .i64 y7_.ids,.string y7_.meth,.slice A4_largs y7_.args.length c4_largs]) HH3_.out hfr5 rfl hH5
  have HL4_pf:=lh (LsR.fr (flat_rk rfC) HL3_pf.out HF3_.out HM7.out HH3_.out hfr5 HT.out.1 (id) (by decide) (by decide))
  have HL4_pm:=lh (LsR.fr ltR_rk HL3_pm.out HF3_.out HM7.out HH3_.out hfr5 HT.out.2.1 (HT.out.1) (by decide) (by show ¬ (_:TypeId)=_;decide))
  have HL4_pw:=lh (LsR.fr (flat_rk waC) HL3_pw.out HF3_.out HM7.out HH3_.out hfr5 HT.out.2.2.1 (id) (by decide) (by decide))
  have HL4_ai:=lh (LsR.fr (flat_rk inC) HL3_ai.out HF3_.out HM7.out HH3_.out hfr5 HT.out.2.2.2.1 (id) (by decide) (by decide))
  have HL4_ks:=lh (LsR.fr (flat_rk ndC) HL3_ks.out HF3_.out HM7.out HH3_.out hfr5 HT.out.2.2.2.2 (id) (by decide) (by decide))
  have HL4_kc:=lh (LsR.fr (flat_rk ndC) HL3_kc.out HF3_.out HM7.out HH3_.out hfr5 HT.out.2.2.2.2 (id) (by decide) (by decide))
  have HL4_kk:=lh (LsR.fr (flat_rk ndC) HL3_kk.out HF3_.out HM7.out HH3_.out hfr5 HT.out.2.2.2.2 (id) (by decide) (by decide))
  have HL4_largs:=lh hl5_largs
  clear hl5_largs
  have HF4_:=lh hF5
  have HH4_:=lh hHH
  have HFR4_:=lh (HFR3_.out.trans hfr5)
  clear cM4 hF5 hH5 hfr5 hHH
  have cM5:=parcel_any (x:=x.parcel) (r:=[.int .u64 x.parcel.number,.int .i64 x.parcel.idm,.int .i64 x.parcel.ids,.int .i64 x.parcel.kind,.int .i64 x.parcel.cls,.slice A2 x.parcel.fields.length c2,.slice A3 x.parcel.mail.length c3,.slice A4 x.parcel.watches.length c4]) (pre:=pre++[.int .i64 y0_,.int .u64 y4_,.int .i64 y1_,.string y5_,.int .i64 y6_.kind,.int .i64 y6_.int,.int .i64 y6_.owner,.int .u64 y6_.number,.int .i64 y6_.idm,.int .i64 y6_.ids,.int .i64 y6_.cls,.bool y6_.weak,.int .i64 y7_.idm,.int .i64 y7_.ids,.string y7_.meth,.slice A4_largs y7_.args.length c4_largs]) (post:=[.int .i64 y2_,.int .i64 y3_,.int .i64 x.answer.machine,.int .i64 x.answer.owner,.int .u64 x.answer.number,.int .i64 x.answer.epoch,.bool x.answer.known,.bool x.answer.rooted,.int .i64 x.answer.last,.slice A5 x.answer.inset.length c5,.int .i64 x.claim.machine,.int .i64 x.claim.epoch,.slice A6 x.claim.stubs.length c6,.slice A7 x.claim.scions.length c7,.slice A8 x.claim.checks.length c8]++post) (o:=o+16) HF4_.out (show PcR s7_.md N u4_ x.parcel [.int .u64 x.parcel.number,.int .i64 x.parcel.idm,.int .i64 x.parcel.ids,.int .i64 x.parcel.kind,.int .i64 x.parcel.cls,.slice A2 x.parcel.fields.length c2,.slice A3 x.parcel.mail.length c3,.slice A4 x.parcel.watches.length c4] by rw[HM8.out];exact⟨A2,c2,A3,c3,A4,c4,rfl,HL4_pf.out,HL4_pm.out,HL4_pw.out⟩) (show Hd E N t b (pre++[.int .i64 y0_,.int .u64 y4_,.int .i64 y1_,.string y5_,.int .i64 y6_.kind,.int .i64 y6_.int,.int .i64 y6_.owner,.int .u64 y6_.number,.int .i64 y6_.idm,.int .i64 y6_.ids,.int .i64 y6_.cls,.bool y6_.weak,.int .i64 y7_.idm,.int .i64 y7_.ids,.string y7_.meth,.slice A4_largs y7_.args.length c4_largs]) ([.int .i64 y2_,.int .i64 y3_,.int .i64 x.answer.machine,.int .i64 x.answer.owner,.int .u64 x.answer.number,.int .i64 x.answer.epoch,.bool x.answer.known,.bool x.answer.rooted,.int .i64 x.answer.last,.slice A5 x.answer.inset.length c5,.int .i64 x.claim.machine,.int .i64 x.claim.epoch,.slice A6 x.claim.stubs.length c6,.slice A7 x.claim.scions.length c7,.slice A8 x.claim.checks.length c8]++post) s7_.md u4_ [.int .u64 x.parcel.number,.int .i64 x.parcel.idm,.int .i64 x.parcel.ids,.int .i64 x.parcel.kind,.int .i64 x.parcel.cls,.slice A2 x.parcel.fields.length c2,.slice A3 x.parcel.mail.length c3,.slice A4 x.parcel.watches.length c4] by rw[HM8.out];exact Hd.sub (r1:=[.int .i64 y0_,.int .u64 y4_,.int .i64 y1_,.string y5_,.int .i64 y6_.kind,.int .i64 y6_.int,.int .i64 y6_.owner,.int .u64 y6_.number,.int .i64 y6_.idm,.int .i64 y6_.ids,.int .i64 y6_.cls,.bool y6_.weak,.int .i64 y7_.idm,.int .i64 y7_.ids,.string y7_.meth,.slice A4_largs y7_.args.length c4_largs]) (r2:=[.int .u64 x.parcel.number,.int .i64 x.parcel.idm,.int .i64 x.parcel.ids,.int .i64 x.parcel.kind,.int .i64 x.parcel.cls,.slice A2 x.parcel.fields.length c2,.slice A3 x.parcel.mail.length c3,.slice A4 x.parcel.watches.length c4]) (r3:=[.int .i64 y2_,.int .i64 y3_,.int .i64 x.answer.machine,.int .i64 x.answer.owner,.int .u64 x.answer.number,.int .i64 x.answer.epoch,.bool x.answer.known,.bool x.answer.rooted,.int .i64 x.answer.last,.slice A5 x.answer.inset.length c5,.int .i64 x.claim.machine,.int .i64 x.claim.epoch,.slice A6 x.claim.stubs.length c6,.slice A7 x.claim.scions.length c7,.slice A8 x.claim.checks.length c8]) HH4_.out) (by rw[List.length_append,HO.out];rfl) (fun h=>by
    obtain⟨h1,h2⟩:=HZX.out (by rw[HM0.out];rw[HM8.out] at h;exact h)
    subst h2
    simp only[List.cons.injEq,Value.slice.injEq] at h1
    simp[h1,Ms.zero,Pc.zero]) HT.out.1 HT.out.2.1 HT.out.2.2.1 (HX.out.2.2.2.2.2.2.2.2.1) (HFT8.out.mono (by omega))
  rw[← HQ8.out,HM8.out,← HGF.out] at cM5
  try dsimp only at cM5
  go_wp2_with fail
  refine cM5.mono ?_
  rintro e u5_ ⟨rfl,hF5,⟨r9_,⟨A5_pf,c5_pf,A5_pm,c5_pm,A5_pw,c5_pw,rfl,hl5_pf,hl5_pm,hl5_pw⟩,hH5⟩,hfr5⟩
  have hHH:Hd E N t b pre post m u5_ [.int .i64 y0_,.int .u64 y4_,.int .i64 y1_,.string y5_,.int .i64 y6_.kind,.int .i64 y6_.int,.int .i64 y6_.owner,.int .u64 y6_.number,.int .i64 y6_.idm,.int .i64 y6_.ids,.int .i64 y6_.cls,.bool y6_.weak,.int .i64 y7_.idm,.int .i64 y7_.ids,.string y7_.meth,.slice A4_largs y7_.args.length c4_largs,.int .u64 y8_.number,.int .i64 y8_.idm,.int .i64 y8_.ids,.int .i64 y8_.kind,.int .i64 y8_.cls,.slice A5_pf y8_.fields.length c5_pf,.slice A5_pm y8_.mail.length c5_pm,.slice A5_pw y8_.watches.length c5_pw,.int .i64 y2_,.int .i64 y3_,.int .i64 x.answer.machine,.int .i64 x.answer.owner,.int .u64 x.answer.number,.int .i64 x.answer.epoch,.bool x.answer.known,.bool x.answer.rooted,.int .i64 x.answer.last,.slice A5 x.answer.inset.length c5,.int .i64 x.claim.machine,.int .i64 x.claim.epoch,.slice A6 x.claim.stubs.length c6,.slice A7 x.claim.scions.length c7,.slice A8 x.claim.checks.length c8]:=Hd.back (r1:=[.int .i64 y0_,.int .u64 y4_,.int .i64 y1_,.string y5_,.int .i64 y6_.kind,.int .i64 y6_.int,.int .i64 y6_.owner,.int .u64 y6_.number,.int .i64 y6_.idm,.int .i64 y6_.ids,.int .i64 y6_.cls,.bool y6_.weak,.int .i64 y7_.idm,.int .i64 y7_.ids,.string y7_.meth,.slice A4_largs y7_.args.length c4_largs]) (r2:=[.int .u64 x.parcel.number,.int .i64 x.parcel.idm,.int .i64 x.parcel.ids,.int .i64 x.parcel.kind,.int .i64 x.parcel.cls,.slice A2 x.parcel.fields.length c2,.slice A3 x.parcel.mail.length c3,.slice A4 x.parcel.watches.length c4]) (r3:=[.int .i64 y2_,.int .i64 y3_,.int .i64 x.answer.machine,.int .i64 x.answer.owner,.int .u64 x.answer.number,.int .i64 x.answer.epoch,.bool x.answer.known,.bool x.answer.rooted,.int .i64 x.answer.last,.slice A5 x.answer.inset.length c5,.int .i64 x.claim.machine,.int .i64 x.claim.epoch,.slice A6 x.claim.stubs.length c6,.slice A7 x.claim.scions.length c7,.slice A8 x.claim.checks.length c8]) (r2':=[.int .u64 y8_.number,.int .i64 y8_.idm,.int .i64 y8_.ids,.int .i64 y8_.kind,.int .i64 y8_.cls,.slice A5_pf y8_.fields.length c5_pf,.slice A5_pm y8_.mail.length c5_pm,.slice A5_pw y8_.watches.length c5_pw]) HH4_.out hfr5 rfl hH5
  have HL5_largs:=lh (LsR.fr (flat_rk rfC) HL4_largs.out HF4_.out HM8.out HH4_.out hfr5 HT.out.1 (id) (by decide) (by decide))
  have HL5_ai:=lh (LsR.fr (flat_rk inC) HL4_ai.out HF4_.out HM8.out HH4_.out hfr5 HT.out.2.2.2.1 (id) (by decide) (by decide))
  have HL5_ks:=lh (LsR.fr (flat_rk ndC) HL4_ks.out HF4_.out HM8.out HH4_.out hfr5 HT.out.2.2.2.2 (id) (by decide) (by decide))
  have HL5_kc:=lh (LsR.fr (flat_rk ndC) HL4_kc.out HF4_.out HM8.out HH4_.out hfr5 HT.out.2.2.2.2 (id) (by decide) (by decide))
  have HL5_kk:=lh (LsR.fr (flat_rk ndC) HL4_kk.out HF4_.out HM8.out HH4_.out hfr5 HT.out.2.2.2.2 (id) (by decide) (by decide))
  have HL5_pf:=lh hl5_pf
  clear hl5_pf
  have HL5_pm:=lh hl5_pm
  clear hl5_pm
  have HL5_pw:=lh hl5_pw
  clear hl5_pw
  have HF5_:=lh hF5
  have HH5_:=lh hHH
  have HFR5_:=lh (HFR4_.out.trans hfr5)
  clear cM5 hF5 hH5 hfr5 hHH
  have cM6:=answer_any (x:=x.answer) (r:=[.int .i64 x.answer.machine,.int .i64 x.answer.owner,.int .u64 x.answer.number,.int .i64 x.answer.epoch,.bool x.answer.known,.bool x.answer.rooted,.int .i64 x.answer.last,.slice A5 x.answer.inset.length c5]) (pre:=pre++[.int .i64 y0_,.int .u64 y4_,.int .i64 y1_,.string y5_,.int .i64 y6_.kind,.int .i64 y6_.int,.int .i64 y6_.owner,.int .u64 y6_.number,.int .i64 y6_.idm,.int .i64 y6_.ids,.int .i64 y6_.cls,.bool y6_.weak,.int .i64 y7_.idm,.int .i64 y7_.ids,.string y7_.meth,.slice A4_largs y7_.args.length c4_largs,.int .u64 y8_.number,.int .i64 y8_.idm,.int .i64 y8_.ids,.int .i64 y8_.kind,.int .i64 y8_.cls,.slice A5_pf y8_.fields.length c5_pf,.slice A5_pm y8_.mail.length c5_pm,.slice A5_pw y8_.watches.length c5_pw,.int .i64 y2_,.int .i64 y3_]) (post:=[.int .i64 x.claim.machine,.int .i64 x.claim.epoch,.slice A6 x.claim.stubs.length c6,.slice A7 x.claim.scions.length c7,.slice A8 x.claim.checks.length c8]++post) (o:=o+26) HF5_.out (show AnR s8_.md N u5_ x.answer [.int .i64 x.answer.machine,.int .i64 x.answer.owner,.int .u64 x.answer.number,.int .i64 x.answer.epoch,.bool x.answer.known,.bool x.answer.rooted,.int .i64 x.answer.last,.slice A5 x.answer.inset.length c5] by rw[HM9.out];exact⟨A5,c5,rfl,HL5_ai.out⟩) (show Hd E N t b (pre++[.int .i64 y0_,.int .u64 y4_,.int .i64 y1_,.string y5_,.int .i64 y6_.kind,.int .i64 y6_.int,.int .i64 y6_.owner,.int .u64 y6_.number,.int .i64 y6_.idm,.int .i64 y6_.ids,.int .i64 y6_.cls,.bool y6_.weak,.int .i64 y7_.idm,.int .i64 y7_.ids,.string y7_.meth,.slice A4_largs y7_.args.length c4_largs,.int .u64 y8_.number,.int .i64 y8_.idm,.int .i64 y8_.ids,.int .i64 y8_.kind,.int .i64 y8_.cls,.slice A5_pf y8_.fields.length c5_pf,.slice A5_pm y8_.mail.length c5_pm,.slice A5_pw y8_.watches.length c5_pw,.int .i64 y2_,.int .i64 y3_]) ([.int .i64 x.claim.machine,.int .i64 x.claim.epoch,.slice A6 x.claim.stubs.length c6,.slice A7 x.claim.scions.length c7,.slice A8 x.claim.checks.length c8]++post) s8_.md u5_ [.int .i64 x.answer.machine,.int .i64 x.answer.owner,.int .u64 x.answer.number,.int .i64 x.answer.epoch,.bool x.answer.known,.bool x.answer.rooted,.int .i64 x.answer.last,.slice A5 x.answer.inset.length c5] by rw[HM9.out];exact Hd.sub (r1:=[.int .i64 y0_,.int .u64 y4_,.int .i64 y1_,.string y5_,.int .i64 y6_.kind,.int .i64 y6_.int,.int .i64 y6_.owner,.int .u64 y6_.number,.int .i64 y6_.idm,.int .i64 y6_.ids,.int .i64 y6_.cls,.bool y6_.weak,.int .i64 y7_.idm,.int .i64 y7_.ids,.string y7_.meth,.slice A4_largs y7_.args.length c4_largs,.int .u64 y8_.number,.int .i64 y8_.idm,.int .i64 y8_.ids,.int .i64 y8_.kind,.int .i64 y8_.cls,.slice A5_pf y8_.fields.length c5_pf,.slice A5_pm y8_.mail.length c5_pm,.slice A5_pw y8_.watches.length c5_pw,.int .i64 y2_,.int .i64 y3_]) (r2:=[.int .i64 x.answer.machine,.int .i64 x.answer.owner,.int .u64 x.answer.number,.int .i64 x.answer.epoch,.bool x.answer.known,.bool x.answer.rooted,.int .i64 x.answer.last,.slice A5 x.answer.inset.length c5]) (r3:=[.int .i64 x.claim.machine,.int .i64 x.claim.epoch,.slice A6 x.claim.stubs.length c6,.slice A7 x.claim.scions.length c7,.slice A8 x.claim.checks.length c8]) HH5_.out) (by rw[List.length_append,HO.out];rfl) (fun h=>by
    obtain⟨h1,h2⟩:=HZX.out (by rw[HM0.out];rw[HM9.out] at h;exact h)
    subst h2
    simp only[List.cons.injEq,Value.slice.injEq] at h1
    simp[h1,Ms.zero,An.zero]) HT.out.2.2.2.1 (HX.out.2.2.2.2.2.2.2.2.2.1) (HFT9.out.mono (by omega))
  rw[← HQ9.out,HM9.out,← HGF.out] at cM6
  try dsimp only at cM6
  go_wp2_with fail
  refine cM6.mono ?_
  rintro e u6_ ⟨rfl,hF5,⟨r9_,⟨A6_ai,c6_ai,rfl,hl5_ai⟩,hH5⟩,hfr5⟩
  have hHH:Hd E N t b pre post m u6_ [.int .i64 y0_,.int .u64 y4_,.int .i64 y1_,.string y5_,.int .i64 y6_.kind,.int .i64 y6_.int,.int .i64 y6_.owner,.int .u64 y6_.number,.int .i64 y6_.idm,.int .i64 y6_.ids,.int .i64 y6_.cls,.bool y6_.weak,.int .i64 y7_.idm,.int .i64 y7_.ids,.string y7_.meth,.slice A4_largs y7_.args.length c4_largs,.int .u64 y8_.number,.int .i64 y8_.idm,.int .i64 y8_.ids,.int .i64 y8_.kind,.int .i64 y8_.cls,.slice A5_pf y8_.fields.length c5_pf,.slice A5_pm y8_.mail.length c5_pm,.slice A5_pw y8_.watches.length c5_pw,.int .i64 y2_,.int .i64 y3_,.int .i64 y9_.machine,.int .i64 y9_.owner,.int .u64 y9_.number,.int .i64 y9_.epoch,.bool y9_.known,.bool y9_.rooted,.int .i64 y9_.last,.slice A6_ai y9_.inset.length c6_ai,.int .i64 x.claim.machine,.int .i64 x.claim.epoch,.slice A6 x.claim.stubs.length c6,.slice A7 x.claim.scions.length c7,.slice A8 x.claim.checks.length c8]:=Hd.back (r1:=[.int .i64 y0_,.int .u64 y4_,.int .i64 y1_,.string y5_,.int .i64 y6_.kind,.int .i64 y6_.int,.int .i64 y6_.owner,.int .u64 y6_.number,.int .i64 y6_.idm,.int .i64 y6_.ids,.int .i64 y6_.cls,.bool y6_.weak,.int .i64 y7_.idm,.int .i64 y7_.ids,.string y7_.meth,.slice A4_largs y7_.args.length c4_largs,.int .u64 y8_.number,.int .i64 y8_.idm,.int .i64 y8_.ids,.int .i64 y8_.kind,.int .i64 y8_.cls,.slice A5_pf y8_.fields.length c5_pf,.slice A5_pm y8_.mail.length c5_pm,.slice A5_pw y8_.watches.length c5_pw,.int .i64 y2_,.int .i64 y3_]) (r2:=[.int .i64 x.answer.machine,.int .i64 x.answer.owner,.int .u64 x.answer.number,.int .i64 x.answer.epoch,.bool x.answer.known,.bool x.answer.rooted,.int .i64 x.answer.last,.slice A5 x.answer.inset.length c5]) (r3:=[.int .i64 x.claim.machine,.int .i64 x.claim.epoch,.slice A6 x.claim.stubs.length c6,.slice A7 x.claim.scions.length c7,.slice A8 x.claim.checks.length c8]) (r2':=[.int .i64 y9_.machine,.int .i64 y9_.owner,.int .u64 y9_.number,.int .i64 y9_.epoch,.bool y9_.known,.bool y9_.rooted,.int .i64 y9_.last,.slice A6_ai y9_.inset.length c6_ai]) HH5_.out hfr5 rfl hH5
  have HL6_largs:=lh (LsR.fr (flat_rk rfC) HL5_largs.out HF5_.out HM9.out HH5_.out hfr5 HT.out.1 (id) (by decide) (by decide))
  have HL6_pf:=lh (LsR.fr (flat_rk rfC) HL5_pf.out HF5_.out HM9.out HH5_.out hfr5 HT.out.1 (id) (by decide) (by decide))
  have HL6_pm:=lh (LsR.fr ltR_rk HL5_pm.out HF5_.out HM9.out HH5_.out hfr5 HT.out.2.1 (HT.out.1) (by decide) (by show ¬ (_:TypeId)=_;decide))
  have HL6_pw:=lh (LsR.fr (flat_rk waC) HL5_pw.out HF5_.out HM9.out HH5_.out hfr5 HT.out.2.2.1 (id) (by decide) (by decide))
  have HL6_ks:=lh (LsR.fr (flat_rk ndC) HL5_ks.out HF5_.out HM9.out HH5_.out hfr5 HT.out.2.2.2.2 (id) (by decide) (by decide))
  have HL6_kc:=lh (LsR.fr (flat_rk ndC) HL5_kc.out HF5_.out HM9.out HH5_.out hfr5 HT.out.2.2.2.2 (id) (by decide) (by decide))
  have HL6_kk:=lh (LsR.fr (flat_rk ndC) HL5_kk.out HF5_.out HM9.out HH5_.out hfr5 HT.out.2.2.2.2 (id) (by decide) (by decide))
  have HL6_ai:=lh hl5_ai
  clear hl5_ai
  have HF6_:=lh hF5
  have HH6_:=lh hHH
  have HFR6_:=lh (HFR5_.out.trans hfr5)
  clear cM6 hF5 hH5 hfr5 hHH
  have cM7:=claim_any (x:=x.claim) (r:=[.int .i64 x.claim.machine,.int .i64 x.claim.epoch,.slice A6 x.claim.stubs.length c6,.slice A7 x.claim.scions.length c7,.slice A8 x.claim.checks.length c8]) (pre:=pre++[.int .i64 y0_,.int .u64 y4_,.int .i64 y1_,.string y5_,.int .i64 y6_.kind,.int .i64 y6_.int,.int .i64 y6_.owner,.int .u64 y6_.number,.int .i64 y6_.idm,.int .i64 y6_.ids,.int .i64 y6_.cls,.bool y6_.weak,.int .i64 y7_.idm,.int .i64 y7_.ids,.string y7_.meth,.slice A4_largs y7_.args.length c4_largs,.int .u64 y8_.number,.int .i64 y8_.idm,.int .i64 y8_.ids,.int .i64 y8_.kind,.int .i64 y8_.cls,.slice A5_pf y8_.fields.length c5_pf,.slice A5_pm y8_.mail.length c5_pm,.slice A5_pw y8_.watches.length c5_pw,.int .i64 y2_,.int .i64 y3_,.int .i64 y9_.machine,.int .i64 y9_.owner,.int .u64 y9_.number,.int .i64 y9_.epoch,.bool y9_.known,.bool y9_.rooted,.int .i64 y9_.last,.slice A6_ai y9_.inset.length c6_ai]) (post:=[]++post) (o:=o+34) HF6_.out (show ClR s9_.md N u6_ x.claim [.int .i64 x.claim.machine,.int .i64 x.claim.epoch,.slice A6 x.claim.stubs.length c6,.slice A7 x.claim.scions.length c7,.slice A8 x.claim.checks.length c8] by rw[HM10.out];exact⟨A6,c6,A7,c7,A8,c8,rfl,HL6_ks.out,HL6_kc.out,HL6_kk.out⟩) (show Hd E N t b (pre++[.int .i64 y0_,.int .u64 y4_,.int .i64 y1_,.string y5_,.int .i64 y6_.kind,.int .i64 y6_.int,.int .i64 y6_.owner,.int .u64 y6_.number,.int .i64 y6_.idm,.int .i64 y6_.ids,.int .i64 y6_.cls,.bool y6_.weak,.int .i64 y7_.idm,.int .i64 y7_.ids,.string y7_.meth,.slice A4_largs y7_.args.length c4_largs,.int .u64 y8_.number,.int .i64 y8_.idm,.int .i64 y8_.ids,.int .i64 y8_.kind,.int .i64 y8_.cls,.slice A5_pf y8_.fields.length c5_pf,.slice A5_pm y8_.mail.length c5_pm,.slice A5_pw y8_.watches.length c5_pw,.int .i64 y2_,.int .i64 y3_,.int .i64 y9_.machine,.int .i64 y9_.owner,.int .u64 y9_.number,.int .i64 y9_.epoch,.bool y9_.known,.bool y9_.rooted,.int .i64 y9_.last,.slice A6_ai y9_.inset.length c6_ai]) ([]++post) s9_.md u6_ [.int .i64 x.claim.machine,.int .i64 x.claim.epoch,.slice A6 x.claim.stubs.length c6,.slice A7 x.claim.scions.length c7,.slice A8 x.claim.checks.length c8] by rw[HM10.out];exact Hd.sub (r1:=[.int .i64 y0_,.int .u64 y4_,.int .i64 y1_,.string y5_,.int .i64 y6_.kind,.int .i64 y6_.int,.int .i64 y6_.owner,.int .u64 y6_.number,.int .i64 y6_.idm,.int .i64 y6_.ids,.int .i64 y6_.cls,.bool y6_.weak,.int .i64 y7_.idm,.int .i64 y7_.ids,.string y7_.meth,.slice A4_largs y7_.args.length c4_largs,.int .u64 y8_.number,.int .i64 y8_.idm,.int .i64 y8_.ids,.int .i64 y8_.kind,.int .i64 y8_.cls,.slice A5_pf y8_.fields.length c5_pf,.slice A5_pm y8_.mail.length c5_pm,.slice A5_pw y8_.watches.length c5_pw,.int .i64 y2_,.int .i64 y3_,.int .i64 y9_.machine,.int .i64 y9_.owner,.int .u64 y9_.number,.int .i64 y9_.epoch,.bool y9_.known,.bool y9_.rooted,.int .i64 y9_.last,.slice A6_ai y9_.inset.length c6_ai]) (r2:=[.int .i64 x.claim.machine,.int .i64 x.claim.epoch,.slice A6 x.claim.stubs.length c6,.slice A7 x.claim.scions.length c7,.slice A8 x.claim.checks.length c8]) (r3:=[]) HH6_.out) (by rw[List.length_append,HO.out];rfl) (fun h=>by
    obtain⟨h1,h2⟩:=HZX.out (by rw[HM0.out];rw[HM10.out] at h;exact h)
    subst h2
    simp only[List.cons.injEq,Value.slice.injEq] at h1
    simp[h1,Ms.zero,Cl.zero]) HT.out.2.2.2.2 (HX.out.2.2.2.2.2.2.2.2.2.2) (HFT10.out.mono (by omega))
  rw[← HQ10.out,HM10.out,← HGF.out] at cM7
  try dsimp only at cM7
  go_wp2_with fail
  refine cM7.mono ?_
  rintro e u7_ ⟨rfl,hF5,⟨r9_,⟨A7_ks,c7_ks,A7_kc,c7_kc,A7_kk,c7_kk,rfl,hl5_ks,hl5_kc,hl5_kk⟩,hH5⟩,hfr5⟩
  have hHH:Hd E N t b pre post m u7_ [.int .i64 y0_,.int .u64 y4_,.int .i64 y1_,.string y5_,.int .i64 y6_.kind,.int .i64 y6_.int,.int .i64 y6_.owner,.int .u64 y6_.number,.int .i64 y6_.idm,.int .i64 y6_.ids,.int .i64 y6_.cls,.bool y6_.weak,.int .i64 y7_.idm,.int .i64 y7_.ids,.string y7_.meth,.slice A4_largs y7_.args.length c4_largs,.int .u64 y8_.number,.int .i64 y8_.idm,.int .i64 y8_.ids,.int .i64 y8_.kind,.int .i64 y8_.cls,.slice A5_pf y8_.fields.length c5_pf,.slice A5_pm y8_.mail.length c5_pm,.slice A5_pw y8_.watches.length c5_pw,.int .i64 y2_,.int .i64 y3_,.int .i64 y9_.machine,.int .i64 y9_.owner,.int .u64 y9_.number,.int .i64 y9_.epoch,.bool y9_.known,.bool y9_.rooted,.int .i64 y9_.last,.slice A6_ai y9_.inset.length c6_ai,.int .i64 y10_.machine,.int .i64 y10_.epoch,.slice A7_ks y10_.stubs.length c7_ks,.slice A7_kc y10_.scions.length c7_kc,.slice A7_kk y10_.checks.length c7_kk]:=Hd.back (r1:=[.int .i64 y0_,.int .u64 y4_,.int .i64 y1_,.string y5_,.int .i64 y6_.kind,.int .i64 y6_.int,.int .i64 y6_.owner,.int .u64 y6_.number,.int .i64 y6_.idm,.int .i64 y6_.ids,.int .i64 y6_.cls,.bool y6_.weak,.int .i64 y7_.idm,.int .i64 y7_.ids,.string y7_.meth,.slice A4_largs y7_.args.length c4_largs,.int .u64 y8_.number,.int .i64 y8_.idm,.int .i64 y8_.ids,.int .i64 y8_.kind,.int .i64 y8_.cls,.slice A5_pf y8_.fields.length c5_pf,.slice A5_pm y8_.mail.length c5_pm,.slice A5_pw y8_.watches.length c5_pw,.int .i64 y2_,.int .i64 y3_,.int .i64 y9_.machine,.int .i64 y9_.owner,.int .u64 y9_.number,.int .i64 y9_.epoch,.bool y9_.known,.bool y9_.rooted,.int .i64 y9_.last,.slice A6_ai y9_.inset.length c6_ai]) (r2:=[.int .i64 x.claim.machine,.int .i64 x.claim.epoch,.slice A6 x.claim.stubs.length c6,.slice A7 x.claim.scions.length c7,.slice A8 x.claim.checks.length c8]) (r3:=[]) (r2':=[.int .i64 y10_.machine,.int .i64 y10_.epoch,.slice A7_ks y10_.stubs.length c7_ks,.slice A7_kc y10_.scions.length c7_kc,.slice A7_kk y10_.checks.length c7_kk]) HH6_.out hfr5 rfl hH5
  have HL7_largs:=lh (LsR.fr (flat_rk rfC) HL6_largs.out HF6_.out HM10.out HH6_.out hfr5 HT.out.1 (id) (by decide) (by decide))
  have HL7_pf:=lh (LsR.fr (flat_rk rfC) HL6_pf.out HF6_.out HM10.out HH6_.out hfr5 HT.out.1 (id) (by decide) (by decide))
  have HL7_pm:=lh (LsR.fr ltR_rk HL6_pm.out HF6_.out HM10.out HH6_.out hfr5 HT.out.2.1 (HT.out.1) (by decide) (by show ¬ (_:TypeId)=_;decide))
  have HL7_pw:=lh (LsR.fr (flat_rk waC) HL6_pw.out HF6_.out HM10.out HH6_.out hfr5 HT.out.2.2.1 (id) (by decide) (by decide))
  have HL7_ai:=lh (LsR.fr (flat_rk inC) HL6_ai.out HF6_.out HM10.out HH6_.out hfr5 HT.out.2.2.2.1 (id) (by decide) (by decide))
  have HL7_ks:=lh hl5_ks
  clear hl5_ks
  have HL7_kc:=lh hl5_kc
  clear hl5_kc
  have HL7_kk:=lh hl5_kk
  clear hl5_kk
  have HF7_:=lh hF5
  have HH7_:=lh hHH
  have HFR7_:=lh (HFR6_.out.trans hfr5)
  clear cM7 hF5 hH5 hfr5 hHH
  go_wp2_with fail
  go_end0
  exact⟨rfl,HF7_.out,⟨_,⟨_,_,_,_,_,_,_,_,_,_,_,_,_,_,_,_,rfl,HL7_largs.out,HL7_pf.out,HL7_pm.out,HL7_pw.out,HL7_ai.out,HL7_ks.out,HL7_kc.out,HL7_kk.out⟩,HH7_.out⟩,HFR7_.out⟩
end
end
end Go.Proofs.YtmbnlccafcfbeaaGreatDoor
