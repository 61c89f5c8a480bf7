/- Parts of the proof: RcF. -/
import Derived.Test.YtmbnlccafcfbeaaGreatDoorPeA
import Derived.Test.YtmbnlccafcfbeaaGreatDoorPe16
set_option linter.unusedVariables false
set_option linter.unusedSimpArgs false
set_option linter.unusedSectionVars false
set_option maxRecDepth 100000
namespace Go.Proofs.YtmbnlccafcfbeaaGreatDoor
section
open Go.RowKit
attribute [local go_sem] Oper.semAt_some
abbrev NdL (m:Bool) (N:Nat→Prop) (w:World) (A:Option Addr) (c:Nat) (l:List Nd):Prop:=LsR (flat ndC) 136 3 m N w A c l
def ClR:Rel Cl:=fun m N w x r=>∃ A1 c1 A2 c2 A3 c3,r=[.int .i64 x.machine,.int .i64 x.epoch,.slice A1 x.stubs.length c1,.slice A2 x.scions.length c2,.slice A3 x.checks.length c3]∧NdL m N w A1 c1 x.stubs∧NdL m N w A2 c2 x.scions∧NdL m N w A3 c3 x.checks
section
variable {E:Env} {N N2:Nat→Prop} {t:TypeId} {b c q:Nat} {A:Option Addr} {pre post r:List Value} {m:Bool} {w w':World} {l:List Nd}
theorem NdL.up (h:NdL m N w A c l) (hs:∀ k,N k→N2 k):NdL m N2 w A c l:=by
 unfold NdL LsR at h ⊢
 cases m with
 | true =>
  rw[if_pos rfl] at h ⊢
  refine⟨h.1,h.2.1,h.2.2.imp id fun⟨b,o,h1,h2,h3⟩=>⟨b,o,h1,hs b h2,fun i x hx=>?_⟩⟩
  obtain⟨r,g1,g2,g3⟩:=h3 i x hx
  exact⟨r,g1,g2,g3⟩
 | false=>rw[if_neg (by simp)] at h ⊢;exact h
theorem NdL.down {ps:List (Option Addr)} (h:NdL m (fun k=>N k ∨ k=q) w A c l) (hq:Bk w q t (ps.map Value.pointer).toArray):NdL m N w A c l:=by
 unfold NdL LsR at h ⊢
 cases m with
 | true =>
  rw[if_pos rfl] at h ⊢
  refine⟨h.1,h.2.1,?_⟩
  by_cases h0:l.length=0
  ·exact .inl h0
  ·obtain⟨b,o,h1,h2,h3⟩:=h.2.2.resolve_left h0
   refine .inr ⟨b,o,h1,h2.resolve_right fun e=>?_,fun i x hx=>?_⟩
   ·subst e
    obtain⟨r,g1,g2,g3⟩:=h3 0 l[0] (List.getElem?_eq_getElem (by omega))
    unfold flat at g2
    subst g2
    have:=(g3 0 _ rfl).1
    rw[hq.cell,List.getElem?_toArray,List.getElem?_map] at this
    obtain⟨a,_,ha⟩:=Option.map_eq_some_iff.1 this
    cases ha
   ·obtain⟨r,g1,g2,g3⟩:=h3 i x hx
    exact⟨r,g1,g2,g3⟩
 | false=>rw[if_neg (by simp)] at h ⊢;exact h
theorem Hd.up (h:Hd E N t b pre post m w r) (hs:∀ k,N k→N2 k):Hd E N2 t b pre post m w r:=by
 unfold Hd at h ⊢
 cases m with
 | true=>rw[if_pos rfl] at h ⊢;exact⟨hs b h.1,h.2⟩
 | false=>rw[if_neg (by simp)] at h ⊢;exact h
theorem Hd.down (h:Hd E N2 t b pre post m w r) (hb:m=true→N b):Hd E N t b pre post m w r:=by
 unfold Hd at h ⊢
 cases m with
 | true=>rw[if_pos rfl] at h ⊢;exact⟨hb rfl,h.2⟩
 | false=>rw[if_neg (by simp)] at h ⊢;exact h
theorem Hd.nb (h:Hd E N t b pre post true w r):N b:=by unfold Hd at h;rw[if_pos rfl] at h;exact h.1
theorem Fr.down (h:Fr E N2 b m w w') (hs:∀ k,N k→N2 k):Fr E N b m w w':=Kp.mono h fun k _ hk=>by
 unfold FrS at hk ⊢
 split
 ·rename_i hm
  rw[if_pos hm] at hk
  exact fun hn=>hk (hs k hn)
 ·rename_i hm
  rw[if_neg hm] at hk
  exact hk
end
def ClI (E:Env) (N:Nat→Prop) (t:TypeId) (b:Nat) (pre post:List Value) (m:Bool) (y0 y1:Int) (sts:Nat→Fs) (Ls:Nat→Nat→List Nd) (A0 A1 A2:Option Addr) (c0 c1 c2:Nat) (W:World) (i:Nat) (w:World):Prop :=
 ∃ B0 d0 B1 d1 B2 d2,Fm E N w (sts i)∧Hd E N t b pre post m w [.int .i64 y0,.int .i64 y1,.slice B0 (Ls 0 i).length d0,.slice B1 (Ls 1 i).length d1,.slice B2 (Ls 2 i).length d2]∧NdL m N w B0 d0 (Ls 0 i)∧NdL m N w B1 d1 (Ls 1 i)∧NdL m N w B2 d2 (Ls 2 i)∧(i≤0→B0=A0∧d0=c0)∧(i≤1→B1=A1∧d1=c1)∧(i≤2→B2=A2∧d2=c2)∧Fr E N b m W w
def ClS (D0:World→Prop) (D1:Value→World→Prop) (D2:Value→Value→World→Prop):List Value→World→Prop
 | []=>D0
 | [v]=>D1 v
 | v::u::_=>D2 v u
theorem stp_claim {s s0_ s1_ s2_ s3_ s4_:Fs} {x:Cl} {y0_ y1_:Int} {y2_ y3_ y4_:List Nd} (h0:(s0_,y0_)=stp encI Rd.i s x.machine) (h1:(s1_,y1_)=stp encI Rd.i s0_ x.epoch) (h2:(s2_,y2_)=stp (encL encNd) (Rd.list 1024 decNd) s1_ x.stubs) (h3:(s3_,y3_)=stp (encL encNd) (Rd.list 1024 decNd) s2_ x.scions) (h4:(s4_,y4_)=stp (encL encNd) (Rd.list 1024 decNd) s3_ x.checks):stp encCl decCl s x=(s4_,(⟨y0_,y1_,y2_,y3_,y4_⟩:Cl)):=by
 cases s with
 | w l =>
  obtain⟨rfl,rfl⟩:=Prod.mk.inj h0
  obtain⟨rfl,rfl⟩:=Prod.mk.inj h1
  obtain⟨rfl,rfl⟩:=Prod.mk.inj h2
  obtain⟨rfl,rfl⟩:=Prod.mk.inj h3
  obtain⟨rfl,rfl⟩:=Prod.mk.inj h4
  simp[stp,encCl,List.append_assoc]
 | r rd =>
  obtain⟨rfl,rfl⟩:=Prod.mk.inj h0
  obtain⟨rfl,rfl⟩:=Prod.mk.inj h1
  obtain⟨rfl,rfl⟩:=Prod.mk.inj h2
  obtain⟨rfl,rfl⟩:=Prod.mk.inj h3
  obtain⟨rfl,rfl⟩:=Prod.mk.inj h4
  rfl
section
variable {E:Env} {N:Nat→Prop} {t:TypeId} {b o:Nat} {pre post r:List Value} {w:World} {s:Fs} {x:Cl}
set_option maxHeartbeats 8000000 in
theorem claim_any (hF:Fm E N w s) (hR:ClR s.md N w x r) (hH:Hd E N t b pre post s.md w r) (ho:pre.length=o) (hz:s.md=false→r=[.int .i64 0,.int .i64 0,.slice none 0 0,.slice none 0 0,.slice none 0 0]∧x=Cl.zero) (ht0:t≠136) (hx:clP x) (hf:s.fit (encCl x).length):Calls Tryz.prog 56 #[.pointer (some ⟨E.gf,0,none⟩),.pointer (some ⟨b,o,none⟩)] w (CpP E N t b pre post (stp encCl decCl s x).1 s.md ClR (stp encCl decCl s x).2 w):=by
 obtain⟨A0,c0,A1,c1,A2,c2,rfl,hl_0,hl_1,hl_2⟩:=hR
 obtain⟨gf,hgf⟩:∃ gf,gf=E.gf:=⟨_,rfl⟩
 obtain⟨m,hm⟩:∃ m,m=s.md:=⟨_,rfl⟩
 obtain⟨⟨s0_,y0_⟩,hq0⟩:∃ p,p=stp encI Rd.i s x.machine:=⟨_,rfl⟩
 obtain⟨⟨s1_,y1_⟩,hq1⟩:∃ p,p=stp encI Rd.i s0_ x.epoch:=⟨_,rfl⟩
 obtain⟨⟨s2_,y2_⟩,hq2⟩:∃ p,p=stp (encL encNd) (Rd.list 1024 decNd) s1_ x.stubs:=⟨_,rfl⟩
 obtain⟨⟨s3_,y3_⟩,hq3⟩:∃ p,p=stp (encL encNd) (Rd.list 1024 decNd) s2_ x.scions:=⟨_,rfl⟩
 obtain⟨⟨s4_,y4_⟩,hq4⟩:∃ p,p=stp (encL encNd) (Rd.list 1024 decNd) s3_ x.checks:=⟨_,rfl⟩
 rw[stp_claim hq0 hq1 hq2 hq3 hq4]
 have hm0:s.md=m:=hm.symm
 have hm1:=md_next hq0 hm0
 have hm2:=md_next hq1 hm1
 have hm3:=md_next hq2 hm2
 have hm4:=md_next hq3 hm3
 have hm5:=md_next hq4 hm4
 have hf0:s.fit ((encI x.machine).length+((encI x.epoch).length+((encL encNd x.stubs).length+((encL encNd x.scions).length+((encL encNd x.checks).length+0))))):=hf.mono (by unfold encCl;simp only[List.length_append];omega)
 have hf1:=fit_next hq0 hf0
 have hf2:=fit_next hq1 hf1
 have hf3:=fit_next hq2 hf2
 have hf4:=fit_next hq3 hf3
 have HZ:Hid (m=false→(A0=none∧c0=0∧x.stubs=[])∧(A1=none∧c1=0∧x.scions=[])∧(A2=none∧c2=0∧x.checks=[])):=lh fun h=>by
  obtain⟨h1,h2⟩:=hz (hm0.trans h)
  subst h2
  simp only[List.cons.injEq,Value.slice.injEq] at h1
  simp[h1,Cl.zero]
 have HM:=lh (And.intro hm0 (And.intro hm1 (And.intro hm2 (And.intro hm3 (And.intro hm4 hm5)))))
 have HFT:=lh (And.intro hf0 (And.intro hf1 (And.intro hf2 (And.intro hf3 hf4))))
 have HQ0:=lh hq0
 have HQ1:=lh hq1
 have HQ2:=lh hq2
 have HQ3:=lh hq3
 have HQ4:=lh hq4
 have HX:=lh hx
 have HO:=lh ho
 have HGF:=lh hgf
 have HT:=lh ht0
 rw[← hgf,← hm]
 rw[← hm] at hH hl_0 hl_1 hl_2
 have HBL:Hid (b < w.heap.size):=lh (hH.lt (by simp))
 have HNB:Hid (m=true→N b):=lh fun h=>by subst h;exact hH.nb
 have HF:=lh hF
 have HH:=lh hH
 have HL:=lh (And.intro hl_0 (And.intro hl_1 hl_2))
 clear hgf hm hF hH ho hx hf hz hl_0 hl_1 hl_2 ht0 hq0 hq1 hq2 hq3 hq4 hm0 hm1 hm2 hm3 hm4 hm5 hf0 hf1 hf2 hf3 hf4
 go_enter Tryz.func56,Tryz.ntmps56
 go_wp2_with fail
 refine wp_seq 9 (fun i=>([[],[],[1],[2],[],[4],[5],[3,6],[0,7]]:List (List Nat)).getD i []) [7,8] (fun i=>([1,0,0,0,0,0,0,0,0]:List Nat).getD i 0) (fun zz=>([.pointer (some ⟨gf,0,none⟩),.pointer (some ⟨b,o,none⟩),.pointer (some ⟨b,o,none⟩),.pointer (some ⟨b,o,none⟩),.pointer (some ⟨b,o,none⟩),.pointer (some ⟨b,o,none⟩),.pointer (some ⟨b,o+1,none⟩),.bool false,.bool false]:List Value).getD zz (.bool false)) (CmS (Below w.heap.size w) (fun v w1=>Below w.heap.size w w1∧∃ q,v=.slice (some ⟨q,0,none⟩) 2 2∧Bk w1 q 105 #[.pointer (some ⟨b,o,none⟩),.pointer (some ⟨b,o+1,none⟩)]∧w.heap.size≤q) (fun w1=>StP E N t b pre post (stpN s [x.machine,x.epoch] 2).1 s.md (updI [.int .i64 x.machine,.int .i64 x.epoch,.slice A0 x.stubs.length c0,.slice A1 x.scions.length c1,.slice A2 x.checks.length c2] [0,1] (stpN s [x.machine,x.epoch] 2).2) w (.returned (.tuple #[])) w1)) rfl (by kernel_rfl) (by rfl) (by kernel_rfl) ?_ ?_ ?_ ?_
 ·exact(Below.refl _ _).drew
 ·intro zi hzi hn zo ho k vs w1 hk hlow hS hvs
  rcases (show zi=0 ∨ zi=1 ∨ zi=2 ∨ zi=3 ∨ zi=4 ∨ zi=5 ∨ zi=6 ∨ zi=7 ∨ zi=8 by omega) with rfl | rfl | rfl | rfl | rfl | rfl | rfl | rfl | rfl <;> cases ho
  ·clear hS hvs hlow hk hn
   change Sem.run _ (execOp (Act.eval (frm _ _ _ [])) _) _=_
   simp only[frm]
   go_simp
  ·clear hS hvs hlow hk hn
   change Sem.run _ (execOp (Act.eval (frm _ _ _ [])) _) _=_
   simp only[frm]
   go_simp
  ·have h1:vs 1=.pointer (some ⟨b,o,none⟩):=hvs 1 (by decide) (by decide)
   clear hS hvs hlow hk hn
   change Sem.run _ (execOp (Act.eval (Act.put (frm _ _ _ []) (some 7) (vs 1))) _) _=_
   simp only[frm,h1]
   go_simp
  ·have h2:vs 2=.pointer (some ⟨b,o,none⟩):=hvs 2 (by decide) (by decide)
   clear hS hvs hlow hk hn
   change Sem.run _ (execOp (Act.eval (Act.put (frm _ _ _ []) (some 8) (vs 2))) _) _=_
   simp only[frm,h2]
   go_simp
  ·clear hS hvs hlow hk hn
   change Sem.run _ (execOp (Act.eval (frm _ _ _ [])) _) _=_
   simp only[frm]
   go_simp
  ·have h4:vs 4=.pointer (some ⟨b,o,none⟩):=hvs 4 (by decide) (by decide)
   clear hS hvs hlow hk hn
   change Sem.run _ (execOp (Act.eval (Act.put (frm _ _ _ []) (some 10) (vs 4))) _) _=_
   simp only[frm,h4]
   go_simp
  ·have h5:vs 5=.pointer (some ⟨b,o,none⟩):=hvs 5 (by decide) (by decide)
   clear hS hvs hlow hk hn
   change Sem.run _ (execOp (Act.eval (Act.put (frm _ _ _ []) (some 11) (vs 5))) _) _=_
   simp only[frm,h5]
   go_simp
  ·exact absurd (by decide) hn
  ·exact absurd (by decide) hn
 ·intro p hp o ho vs w1 hS hvs
  rcases (show p=0 ∨ p=1 by change p < 2 at hp;omega) with rfl | rfl <;> cases ho
  ·replace hS:Below w.heap.size w w1:=hS
   have h3:vs 3=.pointer (some ⟨b,o,none⟩):=hvs 3 (by decide) (by decide)
   have h6:vs 6=.pointer (some ⟨b,o+1,none⟩):=hvs 6 (by decide) (by decide)
   show Made _ (fun v w1=>Below w.heap.size w w1∧∃ q,v=.slice (some ⟨q,0,none⟩) 2 2∧Bk w1 q 105 #[.pointer (some ⟨b,o,none⟩),.pointer (some ⟨b,o+1,none⟩)]∧w.heap.size≤q) _
   change Made _ _ (Sem.run _ (execOp (Act.eval (Act.put (Act.put (frm _ _ _ []) (some 12) (vs 6)) (some 9) (vs 3))) _) _)
   simp only[frm,h3,h6]
   have HB1:=lh hS
   clear hS hvs h3 h6
   go_simp
   exact made_ok ⟨HB1.out.alloc HB1.out.size _,_,rfl,Bk.new _ _ _,HB1.out.size⟩
  ·replace hS:(fun v w1=>Below w.heap.size w w1∧∃ q,v=.slice (some ⟨q,0,none⟩) 2 2∧Bk w1 q 105 #[.pointer (some ⟨b,o,none⟩),.pointer (some ⟨b,o+1,none⟩)]∧w.heap.size≤q) (vs 7) w1:=hS
   have h0:vs 0=.pointer (some ⟨gf,0,none⟩):=hvs 0 (by decide) (by decide)
   show Made _ (fun _=>fun w1=>StP E N t b pre post (stpN s [x.machine,x.epoch] 2).1 s.md (updI [.int .i64 x.machine,.int .i64 x.epoch,.slice A0 x.stubs.length c0,.slice A1 x.scions.length c1,.slice A2 x.checks.length c2] [0,1] (stpN s [x.machine,x.epoch] 2).2) w (.returned (.tuple #[])) w1) _
   change Made _ _ (Sem.run _ (execOp (Act.eval (Act.put (Act.put (frm _ _ _ []) (some 13) (vs 7)) (some 6) (vs 0))) _) _)
   obtain⟨hb1,q,hq,hbk,hqs⟩:=hS
   simp only[frm,h0,hq]
   have cM:=small_any (pre:=pre) (post:=post) (js:=[0,1]) (xs:=[x.machine,x.epoch]) (HF.out.below hb1) ((show Hd E N t b pre post s.md w _ by rw[HM.out.1];exact HH.out).below hb1) HO.out (show Bk w1 q 105 ([0,1].map fun j=>Value.pointer (some ⟨b,o+j,none⟩)).toArray from hbk) (by have:=HBL.out;omega) (nreader HF.out (by omega)) rfl (by decide) (idx2 rfl rfl) (by simp only[List.mem_cons,List.not_mem_nil,or_false,forall_eq_or_imp,forall_eq];exact⟨HX.out.1,HX.out.2.1⟩) (HFT.out.1.mono (by unfold encIs;simp only[List.flatMap_cons,List.flatMap_nil,List.length_append,List.length_nil];omega)) (by decide)
   rw[← HGF.out] at cM
   have HB1:=lh hb1
   clear hvs hbk hq hqs hb1 h0
   go_simp
   exact made_call (cM.mono fun e w2 ⟨he,h1,h2,h3⟩=>⟨_,he,rfl,h1,h2,(Fr.ofBelow HB1.out).trans h3⟩)
 ·intro vs w5 hS hvs
  replace hS:(fun w1=>StP E N t b pre post (stpN s [x.machine,x.epoch] 2).1 s.md (updI [.int .i64 x.machine,.int .i64 x.epoch,.slice A0 x.stubs.length c0,.slice A1 x.scions.length c1,.slice A2 x.checks.length c2] [0,1] (stpN s [x.machine,x.epoch] 2).2) w (.returned (.tuple #[])) w1) w5:=hS
  change wpList _ _ _ [] (Act.put (Act.put (Act.put (Act.put (Act.put (Act.put (Act.put (Act.put (Act.put (frm _ _ _ []) (some 14) (vs 8)) (some 13) (vs 7)) (some 12) (vs 6)) (some 11) (vs 5)) (some 10) (vs 4)) (some 9) (vs 3)) (some 8) (vs 2)) (some 7) (vs 1)) (some 6) (vs 0)) _
  simp only[frm]
  clear hvs
  generalize vs 0=z0
  generalize vs 1=z1
  generalize vs 2=z2
  generalize vs 3=z3
  generalize vs 4=z4
  generalize vs 5=z5
  generalize vs 6=z6
  generalize vs 7=z7
  generalize vs 8=z8
  obtain⟨_,hF5,hH5,hfr5⟩:=hS
  rw[stpN2 HQ0.out HQ1.out] at hF5 hH5
  rw[HM.out.1] at hH5 hfr5
  replace hH5:Hd E N t b pre post m w5 [.int .i64 y0_,.int .i64 y1_,.slice A0 x.stubs.length c0,.slice A1 x.scions.length c1,.slice A2 x.checks.length c2]:=hH5
  replace hF5:Fm E N w5 s1_:=hF5
  have hl0:=LsR.fr (flat_rk ndC) HL.out.1 HF.out HM.out.1 HH.out hfr5 HT.out id (by decide) (by decide)
  have hl1:=LsR.fr (flat_rk ndC) HL.out.2.1 HF.out HM.out.1 HH.out hfr5 HT.out id (by decide) (by decide)
  have hl2:=LsR.fr (flat_rk ndC) HL.out.2.2 HF.out HM.out.1 HH.out hfr5 HT.out id (by decide) (by decide)
  have HF5:=lh hF5
  have HH5:=lh hH5
  have HFR5:=lh hfr5
  have HL5:=lh (And.intro hl0 (And.intro hl1 hl2))
  have hbz:b < w5.heap.size:=hH5.lt (by simp)
  clear hF5 hH5 hfr5 hl0 hl1 hl2
  go_wp2_with fail
  refine wp_seq 12 (fun i=>([[],[0],[1],[],[3],[4],[],[6],[7],[2,5,8],[9],[]]:List (List Nat)).getD i []) [9,10] (fun i=>([0,0,0,0,0,0,0,0,0,0,0,2]:List Nat).getD i 0) (fun zz=>([.pointer (some ⟨b,o,none⟩),.pointer (some ⟨b,o,none⟩),.pointer (some ⟨b,o+2,none⟩),.pointer (some ⟨b,o,none⟩),.pointer (some ⟨b,o,none⟩),.pointer (some ⟨b,o+3,none⟩),.pointer (some ⟨b,o,none⟩),.pointer (some ⟨b,o,none⟩),.pointer (some ⟨b,o+4,none⟩),.bool false,.bool false,.int .i64 0]:List Value).getD zz (.bool false)) (ClS (Below w5.heap.size w5) (fun v w1=>Below w5.heap.size w5 w1∧∃ q,v=.slice (some ⟨q,0,none⟩) 3 3∧Bk w1 q 152 #[.pointer (some ⟨b,o+2,none⟩),.pointer (some ⟨b,o+3,none⟩),.pointer (some ⟨b,o+4,none⟩)]∧w5.heap.size≤q) (fun v u w1=>u=.int .i64 3∧(fun v w1=>Below w5.heap.size w5 w1∧∃ q,v=.slice (some ⟨q,0,none⟩) 3 3∧Bk w1 q 152 #[.pointer (some ⟨b,o+2,none⟩),.pointer (some ⟨b,o+3,none⟩),.pointer (some ⟨b,o+4,none⟩)]∧w5.heap.size≤q) v w1)) rfl (by kernel_rfl) (by rfl) (by kernel_rfl) ?_ ?_ ?_ ?_
  ·exact(Below.refl _ _).drew
  ·intro zi hzi hn zo ho k vs w1 hk hlow hS hvs
   rcases (show zi=0 ∨ zi=1 ∨ zi=2 ∨ zi=3 ∨ zi=4 ∨ zi=5 ∨ zi=6 ∨ zi=7 ∨ zi=8 ∨ zi=9 ∨ zi=10 ∨ zi=11 by omega) with rfl | rfl | rfl | rfl | rfl | rfl | rfl | rfl | rfl | rfl | rfl | rfl <;> cases ho
   ·clear hS hvs hlow hk hn
    change Sem.run _ (execOp (Act.eval (frm _ _ _ [])) _) _=_
    simp only[frm]
    go_simp
   ·have h0:vs 0=.pointer (some ⟨b,o,none⟩):=hvs 0 (by decide) (by decide)
    clear hS hvs hlow hk hn
    change Sem.run _ (execOp (Act.eval (Act.put (frm _ _ _ []) (some 15) (vs 0))) _) _=_
    simp only[frm,h0]
    go_simp
   ·have h1:vs 1=.pointer (some ⟨b,o,none⟩):=hvs 1 (by decide) (by decide)
    clear hS hvs hlow hk hn
    change Sem.run _ (execOp (Act.eval (Act.put (frm _ _ _ []) (some 16) (vs 1))) _) _=_
    simp only[frm,h1]
    go_simp
   ·clear hS hvs hlow hk hn
    change Sem.run _ (execOp (Act.eval (frm _ _ _ [])) _) _=_
    simp only[frm]
    go_simp
   ·have h3:vs 3=.pointer (some ⟨b,o,none⟩):=hvs 3 (by decide) (by decide)
    clear hS hvs hlow hk hn
    change Sem.run _ (execOp (Act.eval (Act.put (frm _ _ _ []) (some 18) (vs 3))) _) _=_
    simp only[frm,h3]
    go_simp
   ·have h4:vs 4=.pointer (some ⟨b,o,none⟩):=hvs 4 (by decide) (by decide)
    clear hS hvs hlow hk hn
    change Sem.run _ (execOp (Act.eval (Act.put (frm _ _ _ []) (some 19) (vs 4))) _) _=_
    simp only[frm,h4]
    go_simp
   ·clear hS hvs hlow hk hn
    change Sem.run _ (execOp (Act.eval (frm _ _ _ [])) _) _=_
    simp only[frm]
    go_simp
   ·have h6:vs 6=.pointer (some ⟨b,o,none⟩):=hvs 6 (by decide) (by decide)
    clear hS hvs hlow hk hn
    change Sem.run _ (execOp (Act.eval (Act.put (frm _ _ _ []) (some 21) (vs 6))) _) _=_
    simp only[frm,h6]
    go_simp
   ·have h7:vs 7=.pointer (some ⟨b,o,none⟩):=hvs 7 (by decide) (by decide)
    clear hS hvs hlow hk hn
    change Sem.run _ (execOp (Act.eval (Act.put (frm _ _ _ []) (some 22) (vs 7))) _) _=_
    simp only[frm,h7]
    go_simp
   ·exact absurd (by decide) hn
   ·exact absurd (by decide) hn
   ·clear hS hvs hlow hk hn
    change Sem.run _ (execOp (Act.eval (frm _ _ _ [])) _) _=_
    simp only[frm]
    go_simp
  ·intro p hp o ho vs w1 hS hvs
   rcases (show p=0 ∨ p=1 by change p < 2 at hp;omega) with rfl | rfl <;> cases ho
   ·replace hS:Below w5.heap.size w5 w1:=hS
    have h2:vs 2=.pointer (some ⟨b,o+2,none⟩):=hvs 2 (by decide) (by decide)
    have h5:vs 5=.pointer (some ⟨b,o+3,none⟩):=hvs 5 (by decide) (by decide)
    have h8:vs 8=.pointer (some ⟨b,o+4,none⟩):=hvs 8 (by decide) (by decide)
    show Made _ (fun v w1=>Below w5.heap.size w5 w1∧∃ q,v=.slice (some ⟨q,0,none⟩) 3 3∧Bk w1 q 152 #[.pointer (some ⟨b,o+2,none⟩),.pointer (some ⟨b,o+3,none⟩),.pointer (some ⟨b,o+4,none⟩)]∧w5.heap.size≤q) _
    change Made _ _ (Sem.run _ (execOp (Act.eval (Act.put (Act.put (Act.put (frm _ _ _ []) (some 23) (vs 8)) (some 20) (vs 5)) (some 17) (vs 2))) _) _)
    simp only[frm,h2,h5,h8]
    have HB1:=lh hS
    clear hS hvs h2 h5 h8
    go_simp
    exact made_ok ⟨HB1.out.alloc HB1.out.size _,_,rfl,Bk.new _ _ _,HB1.out.size⟩
   ·replace hS:(fun v w1=>Below w5.heap.size w5 w1∧∃ q,v=.slice (some ⟨q,0,none⟩) 3 3∧Bk w1 q 152 #[.pointer (some ⟨b,o+2,none⟩),.pointer (some ⟨b,o+3,none⟩),.pointer (some ⟨b,o+4,none⟩)]∧w5.heap.size≤q) (vs 9) w1:=hS
    show Made _ (fun u w1=>(fun v u w1=>u=.int .i64 3∧(fun v w1=>Below w5.heap.size w5 w1∧∃ q,v=.slice (some ⟨q,0,none⟩) 3 3∧Bk w1 q 152 #[.pointer (some ⟨b,o+2,none⟩),.pointer (some ⟨b,o+3,none⟩),.pointer (some ⟨b,o+4,none⟩)]∧w5.heap.size≤q) v w1) (vs 9) u w1) _
    change Made _ _ (Sem.run _ (execOp (Act.eval (Act.put (frm _ _ _ []) (some 24) (vs 9))) _) _)
    obtain⟨hb1,q,hq,hbk,hqs⟩:=hS
    rw[hq]
    simp only[frm,hq]
    have HB1:=lh (And.intro hb1 (And.intro hbk hqs))
    clear hvs hb1 hbk hqs hq
    go_simp
    exact made_ok (by first | exact⟨rfl,HB1.out.1,q,rfl,HB1.out.2.1,HB1.out.2.2⟩ | exact⟨rfl,HB1.out.1,HB1.out.2.1,HB1.out.2.2⟩ | exact⟨HB1.out.1,HB1.out.2.1,HB1.out.2.2⟩)
  ·intro vs w6 hS hvs
   replace hS:(fun v u w1=>u=.int .i64 3∧(fun v w1=>Below w5.heap.size w5 w1∧∃ q,v=.slice (some ⟨q,0,none⟩) 3 3∧Bk w1 q 152 #[.pointer (some ⟨b,o+2,none⟩),.pointer (some ⟨b,o+3,none⟩),.pointer (some ⟨b,o+4,none⟩)]∧w5.heap.size≤q) v w1) (vs 9) (vs 10) w6:=hS
   change wpList _ _ _ [] (Act.put (Act.put (Act.put (Act.put (Act.put (Act.put (Act.put (Act.put (Act.put (Act.put (Act.put (Act.put (frm _ _ _ []) (some 26) (vs 11)) (some 25) (vs 10)) (some 24) (vs 9)) (some 23) (vs 8)) (some 22) (vs 7)) (some 21) (vs 6)) (some 20) (vs 5)) (some 19) (vs 4)) (some 18) (vs 3)) (some 17) (vs 2)) (some 16) (vs 1)) (some 15) (vs 0)) _
   have v11:vs 11=.int .i64 0:=hvs 11 (by decide) (by decide)
   obtain⟨hv10,hb6,q,hv9,hbk6,hqs⟩:=hS
   simp only[frm,v11,hv10,hv9]
   clear hvs v11 hv10 hv9
   generalize vs 0=z0
   generalize vs 1=z1
   generalize vs 2=z2
   generalize vs 3=z3
   generalize vs 4=z4
   generalize vs 5=z5
   generalize vs 6=z6
   generalize vs 7=z7
   generalize vs 8=z8
   have hF6:Fm E (fun k=>N k ∨ k=q) w6 s1_:=(HF5.out.below hb6).more hbk6 (by decide) (by decide)
   have hH6:Hd E (fun k=>N k ∨ k=q) t b pre post m w6 [.int .i64 y0_,.int .i64 y1_,.slice A0 x.stubs.length c0,.slice A1 x.scions.length c1,.slice A2 x.checks.length c2]:=(HH5.out.below hb6).up fun k h=>.inl h
   have hkp6:∀ {A c l},NdL m N w5 A c l→NdL m (fun k=>N k ∨ k=q) w6 A c l:=fun {A c l} h=>by
    refine NdL.up ?_ (fun k h=>.inl h)
    cases m with
    | true=>exact h.wr (flat_rk ndC) (Kp.of_below hb6)
    | false=>exact h.rd (S:=fun _=>False) (flat_rk ndC) (Kp.of_below hb6) (fun k h=>h.elim)
   obtain⟨sts,hsts⟩:∃ sts:Nat→Fs,sts=fun i=>([s1_,s2_,s3_,s4_]:List Fs).getD i s1_:=⟨_,rfl⟩
   obtain⟨Ls,hLs⟩:∃ Ls:Nat→Nat→List Nd,Ls=fun k i=>([if 0 < i then y2_ else x.stubs,if 1 < i then y3_ else x.scions,if 2 < i then y4_ else x.checks]:List (List Nd)).getD k []:=⟨_,rfl⟩
   have HI0:Hid (ClI E (fun k=>N k ∨ k=q) t b pre post m y0_ y1_ sts Ls A0 A1 A2 c0 c1 c2 w6 0 w6):=lh ⟨A0,c0,A1,c1,A2,c2,by rw[hsts];exact hF6,by rw[hLs];exact hH6,by rw[hLs];exact hkp6 HL5.out.1,by rw[hLs];exact hkp6 HL5.out.2.1,by rw[hLs];exact hkp6 HL5.out.2.2,fun _=>⟨rfl,rfl⟩,fun _=>⟨rfl,rfl⟩,fun _=>⟨rfl,rfl⟩,Fr.refl⟩
   have HQK:Hid (Bk w6 q 152 #[.pointer (some ⟨b,o+2,none⟩),.pointer (some ⟨b,o+3,none⟩),.pointer (some ⟨b,o+4,none⟩)]∧w5.heap.size≤q∧Below w5.heap.size w5 w6):=lh ⟨hbk6,hqs,hb6⟩
   have hqg:m=false→q≠E.g:=fun h=>nreader HF5.out hqs (by rw[HM.out.2.2.1];exact h)
   have hqb:q≠b:=by omega
   have HQN:=lh (And.intro hqg hqb)
   have HSL:=lh (And.intro hsts hLs)
   clear hF6 hH6 hkp6 hsts hLs hbk6 hqs hb6 hqg hqb hbz
   simp only[Act.put,List.setIfInBounds_toArray,List.set_cons_succ,List.set_cons_zero]
   go_wp2_with fail
   go_loopw [26] (fun ix wr=>∃ i:Nat,ix=.int .i64 (i:Int)∧i≤3∧ClI E (fun k=>N k ∨ k=q) t b pre post m y0_ y1_ sts Ls A0 A1 A2 c0 c1 c2 w6 i wr) (fun ix _=>3 - (intOf ix).toNat)
   case atStart=>exact⟨0,rfl,by omega,HI0.out⟩
   case round =>
    clear HI0
    obtain⟨i,rfl,hi,hcl⟩:=hrel
    have HCL:=lh hcl
    obtain⟨B0,d0,B1,d1,B2,d2,hFi,hHi,hn0,hn1,hn2,he0,he1,he2,hfr⟩:=hcl
    have hqk:Bk wr q 152 #[.pointer (some ⟨b,o+2,none⟩),.pointer (some ⟨b,o+3,none⟩),.pointer (some ⟨b,o+4,none⟩)]:=HQK.out.1.kp hfr (by
     unfold FrS
     split
     ·exact fun h=>h (.inr rfl)
     ·rename_i hmm
      exact fun h=>h.elim (HQN.out.1 (by simpa using hmm)) HQN.out.2)
    have HNI:=lh (And.intro hn0 (And.intro hn1 (And.intro hn2 (And.intro he0 (And.intro he1 (And.intro he2 hfr))))))
    have HFI:=lh (And.intro hFi hHi)
    clear hn0 hn1 hn2 he0 he1 he2 hfr hFi hHi
    by_cases hlt:i < 3
    ·rcases (show i=0 ∨ i=1 ∨ i=2 by omega) with rfl | rfl | rfl
     ·have e1:sts 0=s1_:=by rw[HSL.out.1];rfl
      have g0:Ls 0 0=x.stubs:=by rw[HSL.out.2];rfl
      have g1:Ls 1 0=x.scions:=by rw[HSL.out.2];rfl
      have g2:Ls 2 0=x.checks:=by rw[HSL.out.2];rfl
      have hF7:=HFI.out.1
      have hH7:=HFI.out.2
      rw[e1] at hF7
      rw[g0,g1,g2] at hH7
      have n0:=HNI.out.1
      have n1:=HNI.out.2.1
      have n2:=HNI.out.2.2.1
      rw[g0] at n0
      rw[g1] at n1
      rw[g2] at n2
      obtain⟨eA,eC⟩:=HNI.out.2.2.2.1 (by omega)
      have p0:wr.cell? ⟨q,0,none⟩=some (.pointer (some ⟨b,o+2,none⟩)):=hqk.cell 0
      have cM:=lsNd_any (l:=x.stubs) (A:=B0) (c:=d0) (pre:=pre++[.int .i64 y0_,.int .i64 y1_]) (post:=[.slice B1 (x.scions).length d1,.slice B2 (x.checks).length d2]++post) (o:=o+2) hF7 (show NdL s1_.md (fun k=>N k ∨ k=q) wr B0 d0 x.stubs by rw[HM.out.2.2.1];exact n0) (show Hd E (fun k=>N k ∨ k=q) t b (pre++[.int .i64 y0_,.int .i64 y1_]) ([.slice B1 (x.scions).length d1,.slice B2 (x.checks).length d2]++post) s1_.md wr [.slice B0 (x.stubs).length d0] by rw[HM.out.2.2.1];exact Hd.sub (r1:=[.int .i64 y0_,.int .i64 y1_]) (r2:=[.slice B0 (x.stubs).length d0]) (r3:=[.slice B1 (x.scions).length d1,.slice B2 (x.checks).length d2]) hH7) (by rw[List.length_append,HO.out];rfl) (fun h=>by rw[eA,eC];exact(HZ.out (HM.out.2.2.1.symm.trans h)).1) (HX.out.2.2.1.2) (HFT.out.2.2.1.mono (by omega))
      rw[← HQ2.out,HM.out.2.2.1,← HGF.out] at cM
      try dsimp only at cM
      have H7:=lh (And.intro hF7 (And.intro hH7 (And.intro n0 (And.intro n1 n2))))
      clear hF7 hH7 n0 n1 n2 e1 g0 g1 g2 eA eC hqk
      go_wp2_with fail
      refine cM.mono ?_
      rintro e w7 ⟨rfl,hF8,⟨C9,e9,hl8,hH8⟩,hfr8⟩
      have hHH:Hd E (fun k=>N k ∨ k=q) t b pre post m w7 [.int .i64 y0_,.int .i64 y1_,.slice C9 (y2_).length e9,.slice B1 (x.scions).length d1,.slice B2 (x.checks).length d2]:=Hd.back (r1:=[.int .i64 y0_,.int .i64 y1_]) (r2:=[.slice B0 (x.stubs).length d0]) (r3:=[.slice B1 (x.scions).length d1,.slice B2 (x.checks).length d2]) (r2':=[.slice C9 (y2_).length e9]) H7.out.2.1 hfr8 rfl hH8
      have hk0:=LsR.fr (flat_rk ndC) H7.out.2.2.1 H7.out.1 HM.out.2.2.1 H7.out.2.1 hfr8 HT.out id (by decide) (by decide)
      have hk1:=LsR.fr (flat_rk ndC) H7.out.2.2.2.1 H7.out.1 HM.out.2.2.1 H7.out.2.1 hfr8 HT.out id (by decide) (by decide)
      have hk2:=LsR.fr (flat_rk ndC) H7.out.2.2.2.2 H7.out.1 HM.out.2.2.1 H7.out.2.1 hfr8 HT.out id (by decide) (by decide)
      have HN7:Hid (ClI E (fun k=>N k ∨ k=q) t b pre post m y0_ y1_ sts Ls A0 A1 A2 c0 c1 c2 w6 1 w7):=lh ⟨C9,e9,B1,d1,B2,d2,by rw[HSL.out.1];exact hF8,by rw[HSL.out.2];exact hHH,by rw[HSL.out.2];exact hl8,by rw[HSL.out.2];exact hk1,by rw[HSL.out.2];exact hk2,fun h=>absurd h (by omega),fun _=>HNI.out.2.2.2.2.1 (by omega),fun _=>HNI.out.2.2.2.2.2.1 (by omega),HNI.out.2.2.2.2.2.2.trans hfr8⟩
      clear cM hF8 hH8 hfr8 hHH hk0 hk1 hk2 hl8 p0
      go_wp2_with fail
      go_roundw
      case rel=>exact⟨1,by go_num,by omega,HN7.out⟩
      case measure=>simp[intOf]
     ·have e1:sts 1=s2_:=by rw[HSL.out.1];rfl
      have g0:Ls 0 1=y2_:=by rw[HSL.out.2];rfl
      have g1:Ls 1 1=x.scions:=by rw[HSL.out.2];rfl
      have g2:Ls 2 1=x.checks:=by rw[HSL.out.2];rfl
      have hF7:=HFI.out.1
      have hH7:=HFI.out.2
      rw[e1] at hF7
      rw[g0,g1,g2] at hH7
      have n0:=HNI.out.1
      have n1:=HNI.out.2.1
      have n2:=HNI.out.2.2.1
      rw[g0] at n0
      rw[g1] at n1
      rw[g2] at n2
      obtain⟨eA,eC⟩:=HNI.out.2.2.2.2.1 (by omega)
      have p0:wr.cell? ⟨q,1,none⟩=some (.pointer (some ⟨b,o+3,none⟩)):=hqk.cell 1
      have cM:=lsNd_any (l:=x.scions) (A:=B1) (c:=d1) (pre:=pre++[.int .i64 y0_,.int .i64 y1_,.slice B0 (y2_).length d0]) (post:=[.slice B2 (x.checks).length d2]++post) (o:=o+3) hF7 (show NdL s2_.md (fun k=>N k ∨ k=q) wr B1 d1 x.scions by rw[HM.out.2.2.2.1];exact n1) (show Hd E (fun k=>N k ∨ k=q) t b (pre++[.int .i64 y0_,.int .i64 y1_,.slice B0 (y2_).length d0]) ([.slice B2 (x.checks).length d2]++post) s2_.md wr [.slice B1 (x.scions).length d1] by rw[HM.out.2.2.2.1];exact Hd.sub (r1:=[.int .i64 y0_,.int .i64 y1_,.slice B0 (y2_).length d0]) (r2:=[.slice B1 (x.scions).length d1]) (r3:=[.slice B2 (x.checks).length d2]) hH7) (by rw[List.length_append,HO.out];rfl) (fun h=>by rw[eA,eC];exact(HZ.out (HM.out.2.2.2.1.symm.trans h)).2.1) (HX.out.2.2.2.1.2) (HFT.out.2.2.2.1.mono (by omega))
      rw[← HQ3.out,HM.out.2.2.2.1,← HGF.out] at cM
      try dsimp only at cM
      have H7:=lh (And.intro hF7 (And.intro hH7 (And.intro n0 (And.intro n1 n2))))
      clear hF7 hH7 n0 n1 n2 e1 g0 g1 g2 eA eC hqk
      go_wp2_with fail
      refine cM.mono ?_
      rintro e w7 ⟨rfl,hF8,⟨C9,e9,hl8,hH8⟩,hfr8⟩
      have hHH:Hd E (fun k=>N k ∨ k=q) t b pre post m w7 [.int .i64 y0_,.int .i64 y1_,.slice B0 (y2_).length d0,.slice C9 (y3_).length e9,.slice B2 (x.checks).length d2]:=Hd.back (r1:=[.int .i64 y0_,.int .i64 y1_,.slice B0 (y2_).length d0]) (r2:=[.slice B1 (x.scions).length d1]) (r3:=[.slice B2 (x.checks).length d2]) (r2':=[.slice C9 (y3_).length e9]) H7.out.2.1 hfr8 rfl hH8
      have hk0:=LsR.fr (flat_rk ndC) H7.out.2.2.1 H7.out.1 HM.out.2.2.2.1 H7.out.2.1 hfr8 HT.out id (by decide) (by decide)
      have hk1:=LsR.fr (flat_rk ndC) H7.out.2.2.2.1 H7.out.1 HM.out.2.2.2.1 H7.out.2.1 hfr8 HT.out id (by decide) (by decide)
      have hk2:=LsR.fr (flat_rk ndC) H7.out.2.2.2.2 H7.out.1 HM.out.2.2.2.1 H7.out.2.1 hfr8 HT.out id (by decide) (by decide)
      have HN7:Hid (ClI E (fun k=>N k ∨ k=q) t b pre post m y0_ y1_ sts Ls A0 A1 A2 c0 c1 c2 w6 2 w7):=lh ⟨B0,d0,C9,e9,B2,d2,by rw[HSL.out.1];exact hF8,by rw[HSL.out.2];exact hHH,by rw[HSL.out.2];exact hk0,by rw[HSL.out.2];exact hl8,by rw[HSL.out.2];exact hk2,fun h=>absurd h (by omega),fun h=>absurd h (by omega),fun _=>HNI.out.2.2.2.2.2.1 (by omega),HNI.out.2.2.2.2.2.2.trans hfr8⟩
      clear cM hF8 hH8 hfr8 hHH hk0 hk1 hk2 hl8 p0
      go_wp2_with fail
      go_roundw
      case rel=>exact⟨2,by go_num,by omega,HN7.out⟩
      case measure=>simp[intOf]
     ·have e1:sts 2=s3_:=by rw[HSL.out.1];rfl
      have g0:Ls 0 2=y2_:=by rw[HSL.out.2];rfl
      have g1:Ls 1 2=y3_:=by rw[HSL.out.2];rfl
      have g2:Ls 2 2=x.checks:=by rw[HSL.out.2];rfl
      have hF7:=HFI.out.1
      have hH7:=HFI.out.2
      rw[e1] at hF7
      rw[g0,g1,g2] at hH7
      have n0:=HNI.out.1
      have n1:=HNI.out.2.1
      have n2:=HNI.out.2.2.1
      rw[g0] at n0
      rw[g1] at n1
      rw[g2] at n2
      obtain⟨eA,eC⟩:=HNI.out.2.2.2.2.2.1 (by omega)
      have p0:wr.cell? ⟨q,2,none⟩=some (.pointer (some ⟨b,o+4,none⟩)):=hqk.cell 2
      have cM:=lsNd_any (l:=x.checks) (A:=B2) (c:=d2) (pre:=pre++[.int .i64 y0_,.int .i64 y1_,.slice B0 (y2_).length d0,.slice B1 (y3_).length d1]) (post:=[]++post) (o:=o+4) hF7 (show NdL s3_.md (fun k=>N k ∨ k=q) wr B2 d2 x.checks by rw[HM.out.2.2.2.2.1];exact n2) (show Hd E (fun k=>N k ∨ k=q) t b (pre++[.int .i64 y0_,.int .i64 y1_,.slice B0 (y2_).length d0,.slice B1 (y3_).length d1]) ([]++post) s3_.md wr [.slice B2 (x.checks).length d2] by rw[HM.out.2.2.2.2.1];exact Hd.sub (r1:=[.int .i64 y0_,.int .i64 y1_,.slice B0 (y2_).length d0,.slice B1 (y3_).length d1]) (r2:=[.slice B2 (x.checks).length d2]) (r3:=[]) hH7) (by rw[List.length_append,HO.out];rfl) (fun h=>by rw[eA,eC];exact(HZ.out (HM.out.2.2.2.2.1.symm.trans h)).2.2) (HX.out.2.2.2.2.2) (HFT.out.2.2.2.2.mono (by omega))
      rw[← HQ4.out,HM.out.2.2.2.2.1,← HGF.out] at cM
      try dsimp only at cM
      have H7:=lh (And.intro hF7 (And.intro hH7 (And.intro n0 (And.intro n1 n2))))
      clear hF7 hH7 n0 n1 n2 e1 g0 g1 g2 eA eC hqk
      go_wp2_with fail
      refine cM.mono ?_
      rintro e w7 ⟨rfl,hF8,⟨C9,e9,hl8,hH8⟩,hfr8⟩
      have hHH:Hd E (fun k=>N k ∨ k=q) t b pre post m w7 [.int .i64 y0_,.int .i64 y1_,.slice B0 (y2_).length d0,.slice B1 (y3_).length d1,.slice C9 (y4_).length e9]:=Hd.back (r1:=[.int .i64 y0_,.int .i64 y1_,.slice B0 (y2_).length d0,.slice B1 (y3_).length d1]) (r2:=[.slice B2 (x.checks).length d2]) (r3:=[]) (r2':=[.slice C9 (y4_).length e9]) H7.out.2.1 hfr8 rfl hH8
      have hk0:=LsR.fr (flat_rk ndC) H7.out.2.2.1 H7.out.1 HM.out.2.2.2.2.1 H7.out.2.1 hfr8 HT.out id (by decide) (by decide)
      have hk1:=LsR.fr (flat_rk ndC) H7.out.2.2.2.1 H7.out.1 HM.out.2.2.2.2.1 H7.out.2.1 hfr8 HT.out id (by decide) (by decide)
      have hk2:=LsR.fr (flat_rk ndC) H7.out.2.2.2.2 H7.out.1 HM.out.2.2.2.2.1 H7.out.2.1 hfr8 HT.out id (by decide) (by decide)
      have HN7:Hid (ClI E (fun k=>N k ∨ k=q) t b pre post m y0_ y1_ sts Ls A0 A1 A2 c0 c1 c2 w6 3 w7):=lh ⟨B0,d0,B1,d1,C9,e9,by rw[HSL.out.1];exact hF8,by rw[HSL.out.2];exact hHH,by rw[HSL.out.2];exact hk0,by rw[HSL.out.2];exact hk1,by rw[HSL.out.2];exact hl8,fun h=>absurd h (by omega),fun h=>absurd h (by omega),fun h=>absurd h (by omega),HNI.out.2.2.2.2.2.2.trans hfr8⟩
      clear cM hF8 hH8 hfr8 hHH hk0 hk1 hk2 hl8 p0
      go_wp2_with fail
      go_roundw
      case rel=>exact⟨3,by go_num,by omega,HN7.out⟩
      case measure=>simp[intOf]
    ·have hi3:i=3:=by omega
     subst hi3
     have e1:sts 3=s4_:=by rw[HSL.out.1];rfl
     have g0:Ls 0 3=y2_:=by rw[HSL.out.2];rfl
     have g1:Ls 1 3=y3_:=by rw[HSL.out.2];rfl
     have g2:Ls 2 3=y4_:=by rw[HSL.out.2];rfl
     have hF7:=HFI.out.1
     have hH7:=HFI.out.2
     rw[e1] at hF7
     rw[g0,g1,g2] at hH7
     have n0:=HNI.out.1
     have n1:=HNI.out.2.1
     have n2:=HNI.out.2.2.1
     rw[g0] at n0
     rw[g1] at n1
     rw[g2] at n2
     have hpp:Bk wr q 152 (([some ⟨b,o+2,none⟩,some ⟨b,o+3,none⟩,some ⟨b,o+4,none⟩]:List (Option Addr)).map Value.pointer).toArray:=hqk
     have HE:=lh (And.intro (hF7.anti fun k h=>.inl h) (And.intro (hH7.down HNB.out) (And.intro (n0.down hpp) (And.intro (n1.down hpp) (And.intro (n2.down hpp) (HNI.out.2.2.2.2.2.2.down fun k h=>.inl h))))))
     clear hF7 hH7 n0 n1 n2 hpp e1 g0 g1 g2 hqk hi
     go_wp2_with fail
     go_end0
     exact⟨rfl,HE.out.1,⟨_,⟨_,_,_,_,_,_,rfl,HE.out.2.2.1,HE.out.2.2.2.1,HE.out.2.2.2.2.1⟩,HE.out.2.1⟩,(HFR5.out.trans (Fr.ofBelow HQK.out.2.2)).trans HE.out.2.2.2.2.2⟩
end
end
end Go.Proofs.YtmbnlccafcfbeaaGreatDoor
