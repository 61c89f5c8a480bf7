/- Parts of the proof: RcD. -/
import Derived.Test.YtmbnlccafcfbeaaGreatDoorPdA
import Derived.Test.YtmbnlccafcfbeaaGreatDoorPd13
set_option linter.unusedVariables false
set_option linter.unusedSimpArgs false
set_option linter.unusedSectionVars false
set_option maxRecDepth 100000
namespace Go.Proofs.YtmbnlccafcfbeaaGreatDoor
section
open Go.RowKit
attribute [local go_sem] Oper.semAt_some
section
variable {E:Env} {N:Nat→Prop} {t:TypeId} {b o c:Nat} {A:Option Addr} {pre post:List Value} {w:World} {s:Fs} {l:List Rf}
set_option maxHeartbeats 2000000 in
theorem refs_any (hF:Fm E N w s) (hL:LsR (flat rfC) 26 8 s.md N w A c l) (hH:Hd E N t b pre post s.md w [.slice A l.length c]) (ho:pre.length=o) (hz:s.md=false→A=none∧c=0∧l=[]) (hx:∀ x∈l,rfP x) (hf:s.fit (encL encRf l).length):Calls Tryz.prog 114 #[.pointer (some ⟨E.gf,0,none⟩),.pointer (some ⟨b,o,none⟩)] w (LsP E N t b pre post (stp (encL encRf) (Rd.list 1024 decRf) s l).1 s.md (flat rfC) 26 8 (stp (encL encRf) (Rd.list 1024 decRf) s l).2 w):=by
 have cM:=lsRf_any hF hL hH ho hz hx hf
 obtain⟨T,hT⟩:∃ T,T=LsP E N t b pre post (stp (encL encRf) (Rd.list 1024 decRf) s l).1 s.md (flat rfC) 26 8 (stp (encL encRf) (Rd.list 1024 decRf) s l).2 w:=⟨_,rfl⟩
 have hT1:∀ e w',T e w'→e=.returned (.tuple #[]):=fun e w' h=>by rw[hT] at h;exact h.1
 rw[← hT] at cM ⊢
 have HT:=lh hT1
 obtain⟨gf,hgf⟩:∃ gf,gf=E.gf:=⟨_,rfl⟩
 rw[← hgf] at cM ⊢
 clear hF hL hH ho hz hx hf hT hT1 hgf
 go_enter Tryz.func114,Tryz.ntmps114
 go_wp2_with fail
 refine cM.mono ?_
 intro e w' h
 obtain rfl:=HT.out e w' h
 have H:=lh h
 clear cM h
 go_wp2_with fail
 go_end0
 exact H.out
end
def LtR:Rel Lt:=fun m N w x r=>∃ A c,r=[.int .i64 x.idm,.int .i64 x.ids,.string x.meth,.slice A x.args.length c]∧LsR (flat rfC) 26 8 m N w A c x.args
theorem ltR_rk:RK LtR fun t=>t=26 :=
 ⟨fun⟨A,c,h1,h2⟩ hk=>⟨A,c,h1,h2.wr (flat_rk rfC) hk⟩,fun⟨A,c,h1,h2⟩ hk hS=>⟨A,c,h1,h2.rd (flat_rk rfC) hk fun k h=>let ⟨t,cs,a,b⟩:=hS k h;⟨t,cs,a,b,id⟩⟩⟩
def waC (x:Wa):List Value:=[.int .i64 x.idm,.int .i64 x.ids,.string x.meth,.int .i64 x.key,.int .i64 x.tgt.kind,.int .i64 x.tgt.int,.int .i64 x.tgt.owner,.int .u64 x.tgt.number,.int .i64 x.tgt.idm,.int .i64 x.tgt.ids,.int .i64 x.tgt.cls,.bool x.tgt.weak]
theorem stp_letter {s s0_ s1_ s2_:Fs} {x:Lt} {y0_:Int × Int} {y1_:ByteArray} {y2_:List Rf} (h0:(s0_,y0_)=stp encId decId s (x.idm,x.ids)) (h1:(s1_,y1_)=stp encS (Rd.text 4096) s0_ x.meth) (h2:(s2_,y2_)=stp (encL encRf) (Rd.list 1024 decRf) s1_ x.args):stp encLt decLt s x=(s2_,(⟨y0_.1,y0_.2,y1_,y2_⟩:Lt)):=by
 cases s with
 | w l =>
  obtain⟨rfl,rfl⟩:=Prod.mk.inj h0
  obtain⟨rfl,rfl⟩:=Prod.mk.inj h1
  obtain⟨rfl,rfl⟩:=Prod.mk.inj h2
  simp[stp,encLt,encId,List.append_assoc]
 | r rd =>
  obtain⟨rfl,rfl⟩:=Prod.mk.inj h0
  obtain⟨rfl,rfl⟩:=Prod.mk.inj h1
  obtain⟨rfl,rfl⟩:=Prod.mk.inj h2
  rfl
section
variable {E:Env} {N:Nat→Prop} {t:TypeId} {b o:Nat} {pre post r:List Value} {w:World} {s:Fs} {x:Lt}
set_option maxHeartbeats 8000000 in
theorem letter_any (hF:Fm E N w s) (hR:LtR s.md N w x r) (hH:Hd E N t b pre post s.md w r) (ho:pre.length=o) (hz:s.md=false→r=[.int .i64 0,.int .i64 0,.string ⟨#[]⟩,.slice none 0 0]∧x=Lt.zero) (ht0:t≠26) (hx:ltP x) (hf:s.fit (encLt x).length):Calls Tryz.prog 53 #[.pointer (some ⟨E.gf,0,none⟩),.pointer (some ⟨b,o,none⟩)] w (CpP E N t b pre post (stp encLt decLt s x).1 s.md LtR (stp encLt decLt s x).2 w):=by
 obtain⟨A_,c_,rfl,hl_args⟩:=hR
 obtain⟨gf,hgf⟩:∃ gf,gf=E.gf:=⟨_,rfl⟩
 obtain⟨m,hm⟩:∃ m,m=s.md:=⟨_,rfl⟩
 obtain⟨⟨s0_,y0_⟩,hq0⟩:∃ p,p=stp encId decId s (x.idm,x.ids):=⟨_,rfl⟩
 obtain⟨⟨s1_,y1_⟩,hq1⟩:∃ p,p=stp encS (Rd.text 4096) s0_ x.meth:=⟨_,rfl⟩
 obtain⟨⟨s2_,y2_⟩,hq2⟩:∃ p,p=stp (encL encRf) (Rd.list 1024 decRf) s1_ x.args:=⟨_,rfl⟩
 rw[stp_letter hq0 hq1 hq2]
 have hm0:s.md=m:=hm.symm
 have hm1:=md_next hq0 hm0
 have hm2:=md_next hq1 hm1
 have hm3:=md_next hq2 hm2
 have hf0:s.fit ((encId (x.idm,x.ids)).length+((encS x.meth).length+(((encL encRf) x.args).length+(0)))):=hf.mono (by unfold encLt;(try unfold encId);simp only[List.length_append];omega)
 have hf1:s0_.fit ((encS x.meth).length+(((encL encRf) x.args).length+(0))):=fit_next hq0 hf0
 have hf2:s1_.fit (((encL encRf) x.args).length+(0)):=fit_next hq1 hf1
 have hf3:s2_.fit (0):=fit_next hq2 hf2
 have HZ_args:Hid (s.md=false→A_=none∧c_=0∧x.args=[]):=lh fun h=>by
  obtain⟨h1,h2⟩:=hz h
  subst h2
  simp only[List.cons.injEq,Value.slice.injEq] at h1
  simp[h1,Lt.zero]
 have HM0:=lh hm0
 have HFT0:=lh hf0
 have HM1:=lh hm1
 have HFT1:=lh hf1
 have HM2:=lh hm2
 have HFT2:=lh hf2
 have HM3:=lh hm3
 have HFT3:=lh hf3
 have HQ0:=lh hq0
 have HQ1:=lh hq1
 have HQ2:=lh hq2
 have HX:=lh hx
 have HO:=lh ho
 have HGF:=lh hgf
 have HT:=lh ht0
 rw[← hgf,← hm]
 rw[← hm] at hH hl_args
 have HBL:Hid (b < w.heap.size):=lh (hH.lt (by simp))
 have HF:=lh hF
 have HH:=lh hH
 have HL_args:=lh hl_args
 clear hgf hm hF hH ho hx hf hz hl_args ht0 hq0 hq1 hq2 hm0 hf0 hm1 hf1 hm2 hf2 hm3 hf3
 go_enter Tryz.func53,Tryz.ntmps53
 have cM0:=id_any (x:=(x.idm,x.ids)) (pre:=pre++[]) (post:=[.string x.meth,.slice A_ x.args.length c_]++post) (o:=o+0) HF.out (show Hd E N t b (pre++[]) ([.string x.meth,.slice A_ x.args.length c_]++post) s.md w [.int .i64 x.idm,.int .i64 x.ids] by rw[HM0.out];exact Hd.sub (r1:=[]) (r2:=[.int .i64 x.idm,.int .i64 x.ids]) (r3:=[.string x.meth,.slice A_ x.args.length c_]) HH.out) (by rw[List.length_append,HO.out];rfl) (⟨HX.out.1,HX.out.2.1⟩) (HFT0.out.mono (by omega))
 rw[← HQ0.out,HM0.out,← HGF.out] at cM0
 try dsimp only at cM0
 go_wp2_with fail
 refine cM0.mono ?_
 rintro e u0_ ⟨rfl,hF5,hH5,hfr5⟩
 have hHH:Hd E N t b pre post m u0_ [.int .i64 y0_.1,.int .i64 y0_.2,.string x.meth,.slice A_ x.args.length c_]:=Hd.back (r1:=[]) (r2:=[.int .i64 x.idm,.int .i64 x.ids]) (r3:=[.string x.meth,.slice A_ x.args.length c_]) (r2':=[.int .i64 y0_.1,.int .i64 y0_.2]) HH.out hfr5 rfl hH5
 have HL0_args:=lh (LsR.fr (flat_rk rfC) HL_args.out HF.out HM0.out HH.out hfr5 HT.out id (by decide) (by decide))
 have HF0_:=lh hF5
 have HH0_:=lh hHH
 have HFR0_:=lh hfr5
 clear cM0 hF5 hH5 hfr5 hHH
 have cM1:=Txt_any (x:=x.meth) (pre:=pre++[.int .i64 y0_.1,.int .i64 y0_.2]) (post:=[.slice A_ x.args.length c_]++post) (o:=o+2) HF0_.out (show Hd E N t b (pre++[.int .i64 y0_.1,.int .i64 y0_.2]) ([.slice A_ x.args.length c_]++post) s0_.md u0_ [.string x.meth] by rw[HM1.out];exact Hd.sub (r1:=[.int .i64 y0_.1,.int .i64 y0_.2]) (r2:=[.string x.meth]) (r3:=[.slice A_ x.args.length c_]) HH0_.out) (by rw[List.length_append,HO.out];rfl) (trivial) (HFT1.out.mono (by omega))
 rw[← HQ1.out,HM1.out,← HGF.out] at cM1
 try dsimp only at cM1
 go_wp2_with fail
 refine cM1.mono ?_
 rintro e u1_ ⟨rfl,hF5,hH5,hfr5⟩
 have hHH:Hd E N t b pre post m u1_ [.int .i64 y0_.1,.int .i64 y0_.2,.string y1_,.slice A_ x.args.length c_]:=Hd.back (r1:=[.int .i64 y0_.1,.int .i64 y0_.2]) (r2:=[.string x.meth]) (r3:=[.slice A_ x.args.length c_]) (r2':=[.string y1_]) HH0_.out hfr5 rfl hH5
 have HL1_args:=lh (LsR.fr (flat_rk rfC) HL0_args.out HF0_.out HM1.out HH0_.out hfr5 HT.out id (by decide) (by decide))
 have HF1_:=lh hF5
 have HH1_:=lh hHH
 have HFR1_:=lh (HFR0_.out.trans hfr5)
 clear cM1 hF5 hH5 hfr5 hHH
 have cM2:=refs_any (l:=x.args) (A:=A_) (c:=c_) (pre:=pre++[.int .i64 y0_.1,.int .i64 y0_.2,.string y1_]) (post:=[]++post) (o:=o+3) HF1_.out (show LsR (flat rfC) 26 8 s1_.md N u1_ A_ c_ x.args by rw[HM2.out];exact HL1_args.out) (show Hd E N t b (pre++[.int .i64 y0_.1,.int .i64 y0_.2,.string y1_]) ([]++post) s1_.md u1_ [.slice A_ x.args.length c_] by rw[HM2.out];exact Hd.sub (r1:=[.int .i64 y0_.1,.int .i64 y0_.2,.string y1_]) (r2:=[.slice A_ x.args.length c_]) (r3:=[]) HH1_.out) (by rw[List.length_append,HO.out];rfl) (fun h=>HZ_args.out (by rw[HM0.out];rw[HM2.out] at h;exact h))  (HX.out.2.2.2.2) (HFT2.out.mono (by omega))
 rw[← HQ2.out,HM2.out,← HGF.out] at cM2
 try dsimp only at cM2
 go_wp2_with fail
 refine cM2.mono ?_
 rintro e u2_ ⟨rfl,hF5,⟨A2_,c2_,hl5,hH5⟩,hfr5⟩
 have hHH:Hd E N t b pre post m u2_ [.int .i64 y0_.1,.int .i64 y0_.2,.string y1_,.slice A2_ y2_.length c2_]:=Hd.back (r1:=[.int .i64 y0_.1,.int .i64 y0_.2,.string y1_]) (r2:=[.slice A_ x.args.length c_]) (r3:=[]) (r2':=[.slice A2_ y2_.length c2_]) HH1_.out hfr5 rfl hH5
 have HL2_args:=lh hl5
 have HF2_:=lh hF5
 have HH2_:=lh hHH
 have HFR2_:=lh (HFR1_.out.trans hfr5)
 clear cM2 hF5 hH5 hfr5 hHH hl5
 go_wp2_with fail
 go_end0
 exact⟨rfl,HF2_.out,⟨_,⟨_,_,rfl,HL2_args.out⟩,HH2_.out⟩,HFR2_.out⟩
end
theorem stp_watch {s s0_ s1_ s2_ s3_:Fs} {x:Wa} {y0_:Int × Int} {y1_:ByteArray} {y2_:Int} {y3_:Rf} (h0:(s0_,y0_)=stp encId decId s (x.idm,x.ids)) (h1:(s1_,y1_)=stp encS (Rd.text 4096) s0_ x.meth) (h2:(s2_,y2_)=stp encI Rd.i s1_ x.key) (h3:(s3_,y3_)=stp encRf decRf s2_ x.tgt):stp encWa decWa s x=(s3_,(⟨y0_.1,y0_.2,y1_,y2_,y3_⟩:Wa)):=by
 cases s with
 | w l =>
  obtain⟨rfl,rfl⟩:=Prod.mk.inj h0
  obtain⟨rfl,rfl⟩:=Prod.mk.inj h1
  obtain⟨rfl,rfl⟩:=Prod.mk.inj h2
  obtain⟨rfl,rfl⟩:=Prod.mk.inj h3
  simp[stp,encWa,encId,List.append_assoc]
 | r rd =>
  obtain⟨rfl,rfl⟩:=Prod.mk.inj h0
  obtain⟨rfl,rfl⟩:=Prod.mk.inj h1
  obtain⟨rfl,rfl⟩:=Prod.mk.inj h2
  obtain⟨rfl,rfl⟩:=Prod.mk.inj h3
  rfl
section
variable {E:Env} {N:Nat→Prop} {t:TypeId} {b o:Nat} {pre post:List Value} {w:World} {s:Fs} {x:Wa}
set_option maxHeartbeats 8000000 in
theorem watch_any (hF:Fm E N w s) (hH:Hd E N t b pre post s.md w [.int .i64 x.idm,.int .i64 x.ids,.string x.meth,.int .i64 x.key,.int .i64 x.tgt.kind,.int .i64 x.tgt.int,.int .i64 x.tgt.owner,.int .u64 x.tgt.number,.int .i64 x.tgt.idm,.int .i64 x.tgt.ids,.int .i64 x.tgt.cls,.bool x.tgt.weak]) (ho:pre.length=o) (hx:waP x) (hf:s.fit (encWa x).length):Calls Tryz.prog 117 #[.pointer (some ⟨E.gf,0,none⟩),.pointer (some ⟨b,o,none⟩)] w (StP E N t b pre post (stp encWa decWa s x).1 s.md ((fun x:Wa=>([.int .i64 x.idm,.int .i64 x.ids,.string x.meth,.int .i64 x.key,.int .i64 x.tgt.kind,.int .i64 x.tgt.int,.int .i64 x.tgt.owner,.int .u64 x.tgt.number,.int .i64 x.tgt.idm,.int .i64 x.tgt.ids,.int .i64 x.tgt.cls,.bool x.tgt.weak]:List Value)) (stp encWa decWa s x).2) w):=by
 obtain⟨gf,hgf⟩:∃ gf,gf=E.gf:=⟨_,rfl⟩
 obtain⟨m,hm⟩:∃ m,m=s.md:=⟨_,rfl⟩
 obtain⟨⟨s0_,y0_⟩,hq0⟩:∃ p,p=stp encId decId s (x.idm,x.ids):=⟨_,rfl⟩
 obtain⟨⟨s1_,y1_⟩,hq1⟩:∃ p,p=stp encS (Rd.text 4096) s0_ x.meth:=⟨_,rfl⟩
 obtain⟨⟨s2_,y2_⟩,hq2⟩:∃ p,p=stp encI Rd.i s1_ x.key:=⟨_,rfl⟩
 obtain⟨⟨s3_,y3_⟩,hq3⟩:∃ p,p=stp encRf decRf s2_ x.tgt:=⟨_,rfl⟩
 rw[stp_watch hq0 hq1 hq2 hq3]
 have hm0:s.md=m:=hm.symm
 have hm1:=md_next hq0 hm0
 have hm2:=md_next hq1 hm1
 have hm3:=md_next hq2 hm2
 have hm4:=md_next hq3 hm3
 have hf0:s.fit ((encId (x.idm,x.ids)).length+((encS x.meth).length+((encI x.key).length+((encRf x.tgt).length+(0))))):=hf.mono (by unfold encWa;(try unfold encId);simp only[List.length_append];omega)
 have hf1:s0_.fit ((encS x.meth).length+((encI x.key).length+((encRf x.tgt).length+(0)))):=fit_next hq0 hf0
 have hf2:s1_.fit ((encI x.key).length+((encRf x.tgt).length+(0))):=fit_next hq1 hf1
 have hf3:s2_.fit ((encRf x.tgt).length+(0)):=fit_next hq2 hf2
 have hf4:s3_.fit (0):=fit_next hq3 hf3
 have HM0:=lh hm0
 have HFT0:=lh hf0
 have HM1:=lh hm1
 have HFT1:=lh hf1
 have HM2:=lh hm2
 have HFT2:=lh hf2
 have HM3:=lh hm3
 have HFT3:=lh hf3
 have HM4:=lh hm4
 have HFT4:=lh hf4
 have HQ0:=lh hq0
 have HQ1:=lh hq1
 have HQ2:=lh hq2
 have HQ3:=lh hq3
 have HX:=lh hx
 have HO:=lh ho
 have HGF:=lh hgf
 rw[← hgf,← hm]
 rw[← hm] at hH
 have HBL:Hid (b < w.heap.size):=lh (hH.lt (by simp))
 have HF:=lh hF
 have HH:=lh hH
 clear hgf hm hF hH ho hx hf hq0 hq1 hq2 hq3 hm0 hf0 hm1 hf1 hm2 hf2 hm3 hf3 hm4 hf4
 go_enter Tryz.func117,Tryz.ntmps117
 have cM0:=id_any (x:=(x.idm,x.ids)) (pre:=pre++[]) (post:=[.string x.meth,.int .i64 x.key,.int .i64 x.tgt.kind,.int .i64 x.tgt.int,.int .i64 x.tgt.owner,.int .u64 x.tgt.number,.int .i64 x.tgt.idm,.int .i64 x.tgt.ids,.int .i64 x.tgt.cls,.bool x.tgt.weak]++post) (o:=o+0) HF.out (show Hd E N t b (pre++[]) ([.string x.meth,.int .i64 x.key,.int .i64 x.tgt.kind,.int .i64 x.tgt.int,.int .i64 x.tgt.owner,.int .u64 x.tgt.number,.int .i64 x.tgt.idm,.int .i64 x.tgt.ids,.int .i64 x.tgt.cls,.bool x.tgt.weak]++post) s.md w [.int .i64 x.idm,.int .i64 x.ids] by rw[HM0.out];exact Hd.sub (r1:=[]) (r2:=[.int .i64 x.idm,.int .i64 x.ids]) (r3:=[.string x.meth,.int .i64 x.key,.int .i64 x.tgt.kind,.int .i64 x.tgt.int,.int .i64 x.tgt.owner,.int .u64 x.tgt.number,.int .i64 x.tgt.idm,.int .i64 x.tgt.ids,.int .i64 x.tgt.cls,.bool x.tgt.weak]) HH.out) (by rw[List.length_append,HO.out];rfl) (⟨HX.out.1,HX.out.2.1⟩) (HFT0.out.mono (by omega))
 rw[← HQ0.out,HM0.out,← HGF.out] at cM0
 try dsimp only at cM0
 go_wp2_with fail
 refine cM0.mono ?_
 rintro e u0_ ⟨rfl,hF5,hH5,hfr5⟩
 have hHH:Hd E N t b pre post m u0_ [.int .i64 y0_.1,.int .i64 y0_.2,.string x.meth,.int .i64 x.key,.int .i64 x.tgt.kind,.int .i64 x.tgt.int,.int .i64 x.tgt.owner,.int .u64 x.tgt.number,.int .i64 x.tgt.idm,.int .i64 x.tgt.ids,.int .i64 x.tgt.cls,.bool x.tgt.weak]:=Hd.back (r1:=[]) (r2:=[.int .i64 x.idm,.int .i64 x.ids]) (r3:=[.string x.meth,.int .i64 x.key,.int .i64 x.tgt.kind,.int .i64 x.tgt.int,.int .i64 x.tgt.owner,.int .u64 x.tgt.number,.int .i64 x.tgt.idm,.int .i64 x.tgt.ids,.int .i64 x.tgt.cls,.bool x.tgt.weak]) (r2':=[.int .i64 y0_.1,.int .i64 y0_.2]) HH.out hfr5 rfl hH5
 have HF0_:=lh hF5
 have HH0_:=lh hHH
 have HFR0_:=lh hfr5
 clear cM0 hF5 hH5 hfr5 hHH
 have cM1:=Txt_any (x:=x.meth) (pre:=pre++[.int .i64 y0_.1,.int .i64 y0_.2]) (post:=[.int .i64 x.key,.int .i64 x.tgt.kind,.int .i64 x.tgt.int,.int .i64 x.tgt.owner,.int .u64 x.tgt.number,.int .i64 x.tgt.idm,.int .i64 x.tgt.ids,.int .i64 x.tgt.cls,.bool x.tgt.weak]++post) (o:=o+2) HF0_.out (show Hd E N t b (pre++[.int .i64 y0_.1,.int .i64 y0_.2]) ([.int .i64 x.key,.int .i64 x.tgt.kind,.int .i64 x.tgt.int,.int .i64 x.tgt.owner,.int .u64 x.tgt.number,.int .i64 x.tgt.idm,.int .i64 x.tgt.ids,.int .i64 x.tgt.cls,.bool x.tgt.weak]++post) s0_.md u0_ [.string x.meth] by rw[HM1.out];exact Hd.sub (r1:=[.int .i64 y0_.1,.int .i64 y0_.2]) (r2:=[.string x.meth]) (r3:=[.int .i64 x.key,.int .i64 x.tgt.kind,.int .i64 x.tgt.int,.int .i64 x.tgt.owner,.int .u64 x.tgt.number,.int .i64 x.tgt.idm,.int .i64 x.tgt.ids,.int .i64 x.tgt.cls,.bool x.tgt.weak]) HH0_.out) (by rw[List.length_append,HO.out];rfl) (trivial) (HFT1.out.mono (by omega))
 rw[← HQ1.out,HM1.out,← HGF.out] at cM1
 try dsimp only at cM1
 go_wp2_with fail
 refine cM1.mono ?_
 rintro e u1_ ⟨rfl,hF5,hH5,hfr5⟩
 have hHH:Hd E N t b pre post m u1_ [.int .i64 y0_.1,.int .i64 y0_.2,.string y1_,.int .i64 x.key,.int .i64 x.tgt.kind,.int .i64 x.tgt.int,.int .i64 x.tgt.owner,.int .u64 x.tgt.number,.int .i64 x.tgt.idm,.int .i64 x.tgt.ids,.int .i64 x.tgt.cls,.bool x.tgt.weak]:=Hd.back (r1:=[.int .i64 y0_.1,.int .i64 y0_.2]) (r2:=[.string x.meth]) (r3:=[.int .i64 x.key,.int .i64 x.tgt.kind,.int .i64 x.tgt.int,.int .i64 x.tgt.owner,.int .u64 x.tgt.number,.int .i64 x.tgt.idm,.int .i64 x.tgt.ids,.int .i64 x.tgt.cls,.bool x.tgt.weak]) (r2':=[.string y1_]) HH0_.out hfr5 rfl hH5
 have HF1_:=lh hF5
 have HH1_:=lh hHH
 have HFR1_:=lh (HFR0_.out.trans hfr5)
 clear cM1 hF5 hH5 hfr5 hHH
 have cM2:=Itg_any (x:=x.key) (pre:=pre++[.int .i64 y0_.1,.int .i64 y0_.2,.string y1_]) (post:=[.int .i64 x.tgt.kind,.int .i64 x.tgt.int,.int .i64 x.tgt.owner,.int .u64 x.tgt.number,.int .i64 x.tgt.idm,.int .i64 x.tgt.ids,.int .i64 x.tgt.cls,.bool x.tgt.weak]++post) (o:=o+3) HF1_.out (show Hd E N t b (pre++[.int .i64 y0_.1,.int .i64 y0_.2,.string y1_]) ([.int .i64 x.tgt.kind,.int .i64 x.tgt.int,.int .i64 x.tgt.owner,.int .u64 x.tgt.number,.int .i64 x.tgt.idm,.int .i64 x.tgt.ids,.int .i64 x.tgt.cls,.bool x.tgt.weak]++post) s1_.md u1_ [.int .i64 x.key] by rw[HM2.out];exact Hd.sub (r1:=[.int .i64 y0_.1,.int .i64 y0_.2,.string y1_]) (r2:=[.int .i64 x.key]) (r3:=[.int .i64 x.tgt.kind,.int .i64 x.tgt.int,.int .i64 x.tgt.owner,.int .u64 x.tgt.number,.int .i64 x.tgt.idm,.int .i64 x.tgt.ids,.int .i64 x.tgt.cls,.bool x.tgt.weak]) HH1_.out) (by rw[List.length_append,HO.out];rfl) (HX.out.2.2.2.1) (HFT2.out.mono (by omega))
 rw[← HQ2.out,HM2.out,← HGF.out] at cM2
 try dsimp only at cM2
 go_wp2_with fail
 refine cM2.mono ?_
 rintro e u2_ ⟨rfl,hF5,hH5,hfr5⟩
 have hHH:Hd E N t b pre post m u2_ [.int .i64 y0_.1,.int .i64 y0_.2,.string y1_,.int .i64 y2_,.int .i64 x.tgt.kind,.int .i64 x.tgt.int,.int .i64 x.tgt.owner,.int .u64 x.tgt.number,.int .i64 x.tgt.idm,.int .i64 x.tgt.ids,.int .i64 x.tgt.cls,.bool x.tgt.weak]:=Hd.back (r1:=[.int .i64 y0_.1,.int .i64 y0_.2,.string y1_]) (r2:=[.int .i64 x.key]) (r3:=[.int .i64 x.tgt.kind,.int .i64 x.tgt.int,.int .i64 x.tgt.owner,.int .u64 x.tgt.number,.int .i64 x.tgt.idm,.int .i64 x.tgt.ids,.int .i64 x.tgt.cls,.bool x.tgt.weak]) (r2':=[.int .i64 y2_]) HH1_.out hfr5 rfl hH5
 have HF2_:=lh hF5
 have HH2_:=lh hHH
 have HFR2_:=lh (HFR1_.out.trans hfr5)
 clear cM2 hF5 hH5 hfr5 hHH
 have cM3:=ref_any (x:=x.tgt) (pre:=pre++[.int .i64 y0_.1,.int .i64 y0_.2,.string y1_,.int .i64 y2_]) (post:=[]++post) (o:=o+4) HF2_.out (show Hd E N t b (pre++[.int .i64 y0_.1,.int .i64 y0_.2,.string y1_,.int .i64 y2_]) ([]++post) s2_.md u2_ [.int .i64 x.tgt.kind,.int .i64 x.tgt.int,.int .i64 x.tgt.owner,.int .u64 x.tgt.number,.int .i64 x.tgt.idm,.int .i64 x.tgt.ids,.int .i64 x.tgt.cls,.bool x.tgt.weak] by rw[HM3.out];exact Hd.sub (r1:=[.int .i64 y0_.1,.int .i64 y0_.2,.string y1_,.int .i64 y2_]) (r2:=[.int .i64 x.tgt.kind,.int .i64 x.tgt.int,.int .i64 x.tgt.owner,.int .u64 x.tgt.number,.int .i64 x.tgt.idm,.int .i64 x.tgt.ids,.int .i64 x.tgt.cls,.bool x.tgt.weak]) (r3:=[]) HH2_.out) (by rw[List.length_append,HO.out];rfl) (HX.out.2.2.2.2) (HFT3.out.mono (by omega))
 rw[← HQ3.out,HM3.out,← HGF.out] at cM3
 try dsimp only at cM3
 go_wp2_with fail
 refine cM3.mono ?_
 rintro e u3_ ⟨rfl,hF5,hH5,hfr5⟩
 have hHH:Hd E N t b pre post m u3_ [.int .i64 y0_.1,.int .i64 y0_.2,.string y1_,.int .i64 y2_,.int .i64 y3_.kind,.int .i64 y3_.int,.int .i64 y3_.owner,.int .u64 y3_.number,.int .i64 y3_.idm,.int .i64 y3_.ids,.int .i64 y3_.cls,.bool y3_.weak]:=Hd.back (r1:=[.int .i64 y0_.1,.int .i64 y0_.2,.string y1_,.int .i64 y2_]) (r2:=[.int .i64 x.tgt.kind,.int .i64 x.tgt.int,.int .i64 x.tgt.owner,.int .u64 x.tgt.number,.int .i64 x.tgt.idm,.int .i64 x.tgt.ids,.int .i64 x.tgt.cls,.bool x.tgt.weak]) (r3:=[]) (r2':=[.int .i64 y3_.kind,.int .i64 y3_.int,.int .i64 y3_.owner,.int .u64 y3_.number,.int .i64 y3_.idm,.int .i64 y3_.ids,.int .i64 y3_.cls,.bool y3_.weak]) HH2_.out hfr5 rfl hH5
 have HF3_:=lh hF5
 have HH3_:=lh hHH
 have HFR3_:=lh (HFR2_.out.trans hfr5)
 clear cM3 hF5 hH5 hfr5 hHH
 go_wp2_with fail
 go_end0
 exact⟨rfl,HF3_.out,HH3_.out,HFR3_.out⟩
end
section
variable {E:Env} {N:Nat→Prop} {t:TypeId} {b o:Nat} {pre post r:List Value} {w:World} {s:Fs}
theorem waE_any {x:Wa} (hF:Fm E N w s) (hR:flat waC s.md N w x r) (hH:Hd E N t b pre post s.md w r) (ho:pre.length=o) (hx:waP x) (hf:s.fit (encWa x).length):Calls Tryz.prog 117 #[.pointer (some ⟨E.gf,0,none⟩),.pointer (some ⟨b,o,none⟩)] w (CpP E N t b pre post (stp encWa decWa s x).1 s.md (flat waC) (stp encWa decWa s x).2 w):=by
 unfold flat at hR
 subst hR
 exact(watch_any hF hH ho hx hf).mono fun e w' h=>StP.cp h
end
end
end Go.Proofs.YtmbnlccafcfbeaaGreatDoor
