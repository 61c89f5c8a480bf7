/- Parts of the proof: RcL3, RcD. -/
import Derived.Test.YtmbnlccafcfbeaaGreatDoorPfA
import Derived.Test.YtmbnlccafcfbeaaGreatDoorPf6
set_option linter.unusedVariables false
set_option linter.unusedSimpArgs false
set_option linter.unusedSectionVars false
set_option maxRecDepth 100000
set_option maxHeartbeats 64000000
namespace Go.Proofs.YtmbnlccafcfbeaaGreatDoor
section
open Go.RowKit
attribute [local go_sem] Oper.semAt_some
theorem i_lsRf:(Tryz.prog.info? 26).map (fun i=>(i.zero,i.size,i.bytes))=some (some (.agg #[iv 0,iv 0,iv 0,uv 0,iv 0,iv 0,iv 0,bf]),8,64):=by kernel_rfl
section
variable {E:Env} {N:Nat→Prop} {t:TypeId} {b o c:Nat} {A:Option Addr} {pre post:List Value} {w:World} {rd:Rd} {s:Fs} {l:List Rf}
theorem lsRf_r (hF:Fm E N w (.r rd)) (hH:Hd E N t b pre post false w [sn]) (ho:pre.length=o):Calls Tryz.prog 158 #[pq E.gf 0,pq b o,.func (.func 42) #[pq E.gf 0] #[]] w (LsP E N t b pre post (.r (rd.list 1024 qd3).2) false (qa6 rfC) 26 8 (rd.list 1024 qd3).1 w):=by
 have hbt:¬ (fun _=>False) t:=id;have hB:=hH;unfold Hd at hB;rw[if_neg (by simp)] at hB;have HF:=hF;obtain⟨hbk,hr,hgg,hbb⟩:=HF;obtain⟨csr,hcsr⟩:=hr.bkq;have HW:Hid (PW E b w):=lh ⟨hB.1.lt,hcsr.lt,hbk.lt,hbb,hB.2.1,hB.2.2.1,hB.2.2.2⟩;have hcl:=Rd.count_len (most:=1024) hr.b8;have hcm:=Rd.count_le (r:=rd) (most:=1024) (by decide);have hld:rd.list 1024 qd3=rep qd3 (rd.count 1024).2 (rd.count 1024).1.toNat:=rfl;rw[hld];have cC:=qm2 hr hbb (show(0:Int)≤1024 by decide) (by decide)
 obtain⟨⟨n',r1⟩,hq⟩:∃ p,p=rd.count 1024:=⟨_,rfl⟩
 rw[← hq] at cC hcl hcm ⊢;dsimp only at cC hcl hcm ⊢;obtain⟨n,rfl⟩:=Int.eq_ofNat_of_zero_le hcl.1;rw[Int.toNat_natCast];have hn:n≤1024:=by omega
 obtain⟨gf,hgf⟩:∃ gf,gf=E.gf:=⟨_,rfl⟩
 obtain⟨g,hg⟩:∃ g,g=E.g:=⟨_,rfl⟩
 have c1:w.cell? ⟨gf,1,none⟩=some (pq g 0):=by rw[hgf,hg];exact hbk.cell 1
 rw[← hgf];rw[← hg] at cC;have HGF:=lh (And.intro hgf hg);have H0:=lh (And.intro hF (And.intro hB.1 (And.intro hbt ho)));clear hH hF hB hbk hr hgg hbb hcsr hcl hcm hld hq hgf hg hbt ho
 go_enter Tryz.func158,Tryz.ntmps158
 go_wp2_with fail
 refine cC.mono ?_;rintro e wc ⟨rfl,hrc,hkc⟩
 have hPE:PE E N t b pre post (qa6 rfC) 26 8 w (.r (rep qd3 r1 0).2) (sn) (sn) 0 [] (rep qd3 r1 0).1 wc:=by
  have hk:=hkc;rw[HGF.o.2] at hk hrc;refine⟨⟨H0.o.1.1.kp hk H0.o.1.2.2.1,hrc,H0.o.1.2.2.1,Nat.lt_of_lt_of_le H0.o.1.2.2.2 hk.size⟩,H0.o.2.1.kp hk HW.o.n2,World.ownsRow_nil _ _ _ _,Els.nil _ _ _,hk.mono fun _ _ h=>.inl h⟩
 have HPE:=lh hPE;clear cC hrc hkc hPE c1
 go_wp2_with fail
 go_loopw [46] (fun ix wr=>∃ (i:Nat) (A:Option Addr) (c:Nat) (xs:List Value),ix=iv (i:Int)∧i≤n∧PE E N t b pre post (qa6 rfC) 26 8 w (.r (rep qd3 r1 i).2) (.slice A i c) (.slice A i c) i xs (rep qd3 r1 i).1 wr) (fun ix _=>n - (intOf ix).toNat)
 case atStart=>exact⟨0,none,0,[],rfl,Nat.zero_le _,HPE.o⟩
 case round =>
  clear HPE;obtain⟨i,A,c,xs,rfl,hi,hpe⟩:=hrel;have HP:=lh hpe
  by_cases hlt:i < n
  ·obtain⟨ri,hri⟩:∃ ri,ri=(rep qd3 r1 i).2:=⟨_,rfl⟩
   rw[← hri] at hpe HP
   obtain⟨w1,hw1⟩:∃ w1,w1=wr.alloc (.cells #[iv 0,iv 0,iv 0,uv 0,iv 0,iv 0,iv 0,bf] 26):=⟨_,rfl⟩
   obtain⟨xb,hxb⟩:∃ xb,xb=wr.heap.size:=⟨_,rfl⟩
   have hb1:bw wr w1:=by rw[hw1];exact(Below.refl _ _).alloc (Nat.le_refl _) _
   have hx1:Bk w1 xb 26 #[iv 0,iv 0,iv 0,uv 0,iv 0,iv 0,iv 0,bf]:=by rw[hw1,hxb];exact Bk.new _ _ _
   have hwz:=hpe.kp.size
   have hHx:Hd E N 26 xb [] [] false w1 [iv 0,iv 0,iv 0,uv 0,iv 0,iv 0,iv 0,bf]:=by
    unfold Hd;rw[if_neg (by simp)];refine⟨hx1,?_⟩;have:=HW.o;exact⟨by have:=this.lf;omega,by have:=this.lg;omega,by have:=this.lbb;omega⟩
   have cM:=rfE_any (s:=.r ri) (x:=Rf.zero) (r:=[iv 0,iv 0,iv 0,uv 0,iv 0,iv 0,iv 0,bf]) (o:=0) (hpe.fm.below hb1) (rfl) hHx rfl (by refine⟨?_,?_,?_,?_,?_,?_,?_⟩ <;> simp[Rf.zero,I64,P64]) trivial;have hs:stp qc0 qd3 (.r ri) Rf.zero=(.r (qd3 ri).2,(qd3 ri).1):=rfl;rw[hs] at cM;dsimp only at cM
   obtain⟨⟨x',r2⟩,hx'⟩:∃ p,p=qd3 ri:=⟨_,rfl⟩
   rw[← hx'] at cM;dsimp only at cM;rw[← HGF.o.1] at cM;have HX:=lh (And.intro hx' (And.intro hri (And.intro hb1 (And.intro hx1 hxb))));clear hpe hx' hri hb1 hx1 hHx hs hwz
   go_upto_region 10 with fail
   rw[← hw1,← hxb];clear hw1 hxb
   go_wp2_with fail
   refine cM.mono ?_;rintro e w2 ⟨rfl,hF2,⟨rx,hrx,hHx2⟩,hfr2⟩
   have hpd:PD E N t b pre post (qa6 rfC) 26 8 w (.r r2) (.slice A i c) (.slice A i c) i xs (rep qd3 r1 i).1 xb rx x' w2:=by
    have e:=HX.o.2.2.2.2;have h1:=HX.o.2.2.2.1;subst e;exact PE.read (qa0 rfC) (by decide) (by decide) HW.o HP.o HX.o.2.2.1 (rx:=[iv 0,iv 0,iv 0,uv 0,iv 0,iv 0,iv 0,bf]) h1 hF2 hHx2 hrx hfr2
   clear cM hF2 hHx2 hfr2;obtain rfl:rx=rfC x':=hrx;unfold rfC at hpd;have HD:=lh hpd;clear hpd
   try clear hrx
   obtain⟨i5,hi5,hz0,hz1,hz2⟩:=info_parts i_lsRf;have HIN:=lh (And.intro hi5 (And.intro hz0 (And.intro hz1 hz2)));clear hi5 hz0 hz1 hz2
   obtain⟨lr,hlr⟩:∃ lr,lr=(rep qd3 r1 i).1:=⟨_,rfl⟩
   rw[← hlr] at HD;have HLR:=lh hlr;clear hlr
   go_wp2_with fail
   refine qc9 9 (fun i=>([[],[],[1],[2],[],[4],[3,5],[0],[6,7]]:List (List Nat)).getD i []) [5,6,8] (fun i=>([2,1,1,1,0,0,0,2,0]:List Nat).getD i 0) (fun zz=>([pq b o,pq b o,pq b o,.slice A i c,.agg #[iv x'.kind,iv x'.int,iv x'.owner,uv x'.number,iv x'.idm,iv x'.ids,iv x'.cls,Value.bool x'.weak],bf,bf,pq b o,bf]:List Value).getD zz (bf)) (PqS (PD E N t b pre post (qa6 rfC) 26 8 w (.r r2) (.slice A i c) (.slice A i c) i xs lr xb [iv x'.kind,iv x'.int,iv x'.owner,uv x'.number,iv x'.idm,iv x'.ids,iv x'.cls,Value.bool x'.weak] x') (fun v w1=>PD E N t b pre post (qa6 rfC) 26 8 w (.r r2) (.slice A i c) (.slice A i c) i xs lr xb [iv x'.kind,iv x'.int,iv x'.owner,uv x'.number,iv x'.idm,iv x'.ids,iv x'.cls,Value.bool x'.weak] x' w1∧∃ kk,v=.slice (some ⟨kk,0,none⟩) 1 1∧Sl w1 8 (some ⟨kk,0,none⟩) 1 [iv x'.kind,iv x'.int,iv x'.owner,uv x'.number,iv x'.idm,iv x'.ids,iv x'.cls,Value.bool x'.weak]) (fun v w1=>∃ A' c',v=.slice A' (i+1) c'∧PE E N t b pre post (qa6 rfC) 26 8 w (.r r2) (.slice A i c) (.slice A' (i+1) c') (i+1) (xs++[iv x'.kind,iv x'.int,iv x'.owner,uv x'.number,iv x'.idm,iv x'.ids,iv x'.cls,Value.bool x'.weak]) (lr++[x']) w1) (fun w1=>∃ A' c',PE E N t b pre post (qa6 rfC) 26 8 w (.r r2) (.slice A' (i+1) c') (.slice A' (i+1) c') (i+1) (xs++[iv x'.kind,iv x'.int,iv x'.owner,uv x'.number,iv x'.idm,iv x'.ids,iv x'.cls,Value.bool x'.weak]) (lr++[x']) w1)) rfl (by kernel_rfl) (by rfl) (by kernel_rfl) ?_ ?_ ?_ ?_
   ·exact HD.o.drew (qa0 rfC)
   ·intro zi hzi hn zo ho k vs w1 hk hlow hS hvs;rcases (show zi=0 ∨ zi=1 ∨ zi=2 ∨ zi=3 ∨ zi=4 ∨ zi=5 ∨ zi=6 ∨ zi=7 ∨ zi=8 by omega) with rfl | rfl | rfl | rfl | rfl | rfl | rfl | rfl | rfl <;> cases ho
    ·clear hS hvs hlow hk hn;change Sem.run _ (execOp (Act.eval (frm _ _ _ [])) _) _=_;simp only[frm];go_simp
    ·clear hS hvs hlow hk hn;change Sem.run _ (execOp (Act.eval (frm _ _ _ [])) _) _=_;simp only[frm];go_simp
    ·have h1:vs 1=pq b o:=hvs 1 (by decide) (by decide);clear hS hvs hlow hk hn;change Sem.run _ (execOp (Act.eval (Act.put (frm _ _ _ []) (some 51) (vs 1))) _) _=_;simp only[frm,h1];go_simp
    ·have h2:vs 2=pq b o:=hvs 2 (by decide) (by decide);replace hk:k≤1:=hk
     have hpl:Bk w1 b t (pre++[Value.slice A i c]++post).toArray:=by
      rcases (show k=0 ∨ k=1 by omega) with rfl | rfl
      ·exact(show PD E N t b pre post (qa6 rfC) 26 8 w (.r r2) (.slice A i c) (.slice A i c) i xs lr xb [iv x'.kind,iv x'.int,iv x'.owner,uv x'.number,iv x'.idm,iv x'.ids,iv x'.cls,Value.bool x'.weak] x' w1 from hS).pl
      ·exact(show(fun v w1=>PD E N t b pre post (qa6 rfC) 26 8 w (.r r2) (.slice A i c) (.slice A i c) i xs lr xb [iv x'.kind,iv x'.int,iv x'.owner,uv x'.number,iv x'.idm,iv x'.ids,iv x'.cls,Value.bool x'.weak] x' w1∧∃ kk,v=.slice (some ⟨kk,0,none⟩) 1 1∧Sl w1 8 (some ⟨kk,0,none⟩) 1 [iv x'.kind,iv x'.int,iv x'.owner,uv x'.number,iv x'.idm,iv x'.ids,iv x'.cls,Value.bool x'.weak]) (vs 5) w1 from hS).1.pl
     have c0:w1.cell? ⟨b,o,none⟩=some (.slice A i c):=by rw[hpl.cell,← H0.o.2.2.2];simp
     clear hpl;clear hS hvs hlow hk hn;change Sem.run _ (execOp (Act.eval (Act.put (frm _ _ _ []) (some 52) (vs 2))) _) _=_;simp only[frm,h2];go_simp
    ·replace hk:k≤0:=hk;obtain rfl:k=0:=by omega
     replace hS:PD E N t b pre post (qa6 rfC) 26 8 w (.r r2) (.slice A i c) (.slice A i c) i xs lr xb [iv x'.kind,iv x'.int,iv x'.owner,uv x'.number,iv x'.idm,iv x'.ids,iv x'.cls,Value.bool x'.weak] x' w1:=hS;have k0:cl w1 xb 0 (iv x'.kind):=hS.bx.cell 0;have k1:cl w1 xb 1 (iv x'.int):=hS.bx.cell 1;have k2:cl w1 xb 2 (iv x'.owner):=hS.bx.cell 2;have k3:cl w1 xb 3 (uv x'.number):=hS.bx.cell 3;have k4:cl w1 xb 4 (iv x'.idm):=hS.bx.cell 4;have k5:cl w1 xb 5 (iv x'.ids):=hS.bx.cell 5;have k6:cl w1 xb 6 (iv x'.cls):=hS.bx.cell 6;have k7:cl w1 xb 7 (Value.bool x'.weak):=hS.bx.cell 7;clear hS hvs hlow hk hn;change Sem.run _ (execOp (Act.eval (frm _ _ _ [])) _) _=_;simp only[frm];go_simp
    ·exact absurd (by decide) hn
    ·exact absurd (by decide) hn
    ·have h0:vs 0=pq b o:=hvs 0 (by decide) (by decide);clear hS hvs hlow hk hn;change Sem.run _ (execOp (Act.eval (Act.put (frm _ _ _ []) (some 50) (vs 0))) _) _=_;simp only[frm,h0];go_simp
    ·exact absurd (by decide) hn
   ·intro p hp o ho vs w1 hS hvs;rcases (show p=0 ∨ p=1 ∨ p=2 by change p < 3 at hp;omega) with rfl | rfl | rfl <;> cases ho
    ·replace hS:PD E N t b pre post (qa6 rfC) 26 8 w (.r r2) (.slice A i c) (.slice A i c) i xs lr xb [iv x'.kind,iv x'.int,iv x'.owner,uv x'.number,iv x'.idm,iv x'.ids,iv x'.cls,Value.bool x'.weak] x' w1:=hS;have h4:vs 4=.agg #[iv x'.kind,iv x'.int,iv x'.owner,uv x'.number,iv x'.idm,iv x'.ids,iv x'.cls,Value.bool x'.weak]:=hvs 4 (by decide) (by decide)
     show Made _ (fun v w1=>PD E N t b pre post (qa6 rfC) 26 8 w (.r r2) (.slice A i c) (.slice A i c) i xs lr xb [iv x'.kind,iv x'.int,iv x'.owner,uv x'.number,iv x'.idm,iv x'.ids,iv x'.cls,Value.bool x'.weak] x' w1∧∃ kk,v=.slice (some ⟨kk,0,none⟩) 1 1∧Sl w1 8 (some ⟨kk,0,none⟩) 1 [iv x'.kind,iv x'.int,iv x'.owner,uv x'.number,iv x'.idm,iv x'.ids,iv x'.cls,Value.bool x'.weak]) _
     change Made _ _ (Sem.run _ (execOp (Act.eval (Act.put (frm _ _ _ []) (some 54) (vs 4))) _) _);simp only[frm,h4];have HS1:=lh hS;clear hS hvs h4;go_simp;have hb:bw w1 (w1.alloc (.cells #[iv x'.kind,iv x'.int,iv x'.owner,uv x'.number,iv x'.idm,iv x'.ids,iv x'.cls,Value.bool x'.weak] 26)):=(Below.refl _ _).alloc (Nat.le_refl _) _;exact qa5 ⟨HS1.o.below (qa0 rfC) hb,_,rfl,Sl.one (w:=w1) 26 #[iv x'.kind,iv x'.int,iv x'.owner,uv x'.number,iv x'.idm,iv x'.ids,iv x'.cls,Value.bool x'.weak] (by simp)⟩
    ·replace hS:(fun v w1=>PD E N t b pre post (qa6 rfC) 26 8 w (.r r2) (.slice A i c) (.slice A i c) i xs lr xb [iv x'.kind,iv x'.int,iv x'.owner,uv x'.number,iv x'.idm,iv x'.ids,iv x'.cls,Value.bool x'.weak] x' w1∧∃ kk,v=.slice (some ⟨kk,0,none⟩) 1 1∧Sl w1 8 (some ⟨kk,0,none⟩) 1 [iv x'.kind,iv x'.int,iv x'.owner,uv x'.number,iv x'.idm,iv x'.ids,iv x'.cls,Value.bool x'.weak]) (vs 5) w1:=hS;have h3:vs 3=.slice A i c:=hvs 3 (by decide) (by decide)
     show Made _ (fun v w1=>∃ A' c',v=.slice A' (i+1) c'∧PE E N t b pre post (qa6 rfC) 26 8 w (.r r2) (.slice A i c) (.slice A' (i+1) c') (i+1) (xs++[iv x'.kind,iv x'.int,iv x'.owner,uv x'.number,iv x'.idm,iv x'.ids,iv x'.cls,Value.bool x'.weak]) (lr++[x']) w1) _
     change Made _ _ (Sem.run _ (execOp (Act.eval (Act.put (Act.put (frm _ _ _ []) (some 55) (vs 5)) (some 53) (vs 3))) _) _);obtain⟨hpd,kk,hv5,hsl⟩:=hS;simp only[frm,h3,hv5];have HS1:=lh hpd;have HSS:=lh hsl;have hsz:w.heap.size≤w1.heap.size:=hpd.kp.size;clear hvs hpd hv5 hsl h3;refine qg9 (.tmp 53) (.tmp 55) 27 rfl Tryz.underlying27 HIN.o.1 HIN.o.2.1 HIN.o.2.2.1 HIN.o.2.2.2 rfl (by decide) rfl HS1.o.row rfl HSS.o (by simp[Value.oneCell']) (by unfold maxLen;omega) (by omega) hsz ?_;intro v' w' ho' hg' h4';obtain⟨A',c',rfl,_⟩:=qc1 ho';exact⟨A',c',rfl,HS1.o.grow (qa0 rfC) (by decide) HW.o rfl hg' ho'⟩
    ·replace hS:(fun v w1=>∃ A' c',v=.slice A' (i+1) c'∧PE E N t b pre post (qa6 rfC) 26 8 w (.r r2) (.slice A i c) (.slice A' (i+1) c') (i+1) (xs++[iv x'.kind,iv x'.int,iv x'.owner,uv x'.number,iv x'.idm,iv x'.ids,iv x'.cls,Value.bool x'.weak]) (lr++[x']) w1) (vs 6) w1:=hS;have h7:vs 7=pq b o:=hvs 7 (by decide) (by decide)
     show Made _ (fun _=>(fun w1=>∃ A' c',PE E N t b pre post (qa6 rfC) 26 8 w (.r r2) (.slice A' (i+1) c') (.slice A' (i+1) c') (i+1) (xs++[iv x'.kind,iv x'.int,iv x'.owner,uv x'.number,iv x'.idm,iv x'.ids,iv x'.cls,Value.bool x'.weak]) (lr++[x']) w1)) _
     change Made _ _ (Sem.run _ (execOp (Act.eval (Act.put (Act.put (frm _ _ _ []) (some 57) (vs 7)) (some 56) (vs 6))) _) _);obtain⟨A',c',hv6,hpe⟩:=hS;simp only[frm,h7,hv6];have HS1:=lh hpe;have c0:w1.cell? ⟨b,o,none⟩=some (.slice A i c):=by rw[hpe.pl.cell,← H0.o.2.2.2];simp
     have f0:w1.frozen? ⟨b,o,none⟩=false:=hpe.pl.free o;clear hvs hpe hv6 h7;go_simp;have h9:=HS1.o.store (V':=.slice A' (i+1) c') (qa0 rfC) H0.o.2.2.1 HW.o;rw[H0.o.2.2.2] at h9;exact qa7 (T:=fun _=>fun w1=>∃ A' c',PE E N t b pre post (qa6 rfC) 26 8 w (.r r2) (.slice A' (i+1) c') (.slice A' (i+1) c') (i+1) (xs++[iv x'.kind,iv x'.int,iv x'.owner,uv x'.number,iv x'.idm,iv x'.ids,iv x'.cls,Value.bool x'.weak]) (lr++[x']) w1) ⟨A',c',h9⟩
   ·intro vs w5 hS hvs;replace hS:(fun w1=>∃ A' c',PE E N t b pre post (qa6 rfC) 26 8 w (.r r2) (.slice A' (i+1) c') (.slice A' (i+1) c') (i+1) (xs++[iv x'.kind,iv x'.int,iv x'.owner,uv x'.number,iv x'.idm,iv x'.ids,iv x'.cls,Value.bool x'.weak]) (lr++[x']) w1) w5:=hS;change wpList _ _ _ [] (Act.put (Act.put (Act.put (Act.put (Act.put (Act.put (Act.put (Act.put (Act.put (frm _ _ _ []) none (vs 8)) (some 57) (vs 7)) (some 56) (vs 6)) (some 55) (vs 5)) (some 54) (vs 4)) (some 53) (vs 3)) (some 52) (vs 2)) (some 51) (vs 1)) (some 50) (vs 0)) _;simp only[frm];clear hvs;generalize vs 0=z0;generalize vs 1=z1;generalize vs 2=z2;generalize vs 3=z3;generalize vs 4=z4;generalize vs 5=z5;generalize vs 6=z6;generalize vs 7=z7;generalize vs 8=z8;obtain⟨A',c',hpe⟩:=hS;have HP5:=lh hpe;clear hpe
    go_wp2_with fail
    go_roundw
    case rel =>
     have e1:rep qd3 r1 (i+1)=(lr++[x'],r2):=by
      have:rep qd3 r1 (i+1)=((rep qd3 r1 i).1++[(qd3 (rep qd3 r1 i).2).1],(qd3 (rep qd3 r1 i).2).2):=rfl;rw[this,← HX.o.2.1,← HX.o.1,← HLR.o]
     exact⟨i+1,A',c',_,by go_num,hlt,by rw[e1];exact HP5.o⟩
    case measure=>simp[intOf];omega
  ·have hin:i=n:=by omega
   rw[hin] at hpe;clear hpe;have hpe:=HP.o;rw[hin] at hpe;have HE:=lh hpe;clear hpe hin HP
   go_wp2_with fail
   go_end0
   refine⟨rfl,HE.o.fm,⟨A,c,?_,?_⟩,?_⟩
   ·unfold LsR;rw[if_neg (by simp),qh8];exact⟨xs,qo0 HE.o.row (Nat.zero_le _),HE.o.els⟩
   ·unfold Hd;rw[if_neg (by simp),qh8];exact⟨HE.o.pl,HW.o.n1,HW.o.n2,HW.o.n3⟩
   ·unfold Fr;rw[qe5];exact HE.o.kp
theorem lsRf_any (hF:Fm E N w s) (hL:LsR (qa6 rfC) 26 8 s.md N w A c l) (hH:Hd E N t b pre post s.md w [.slice A l.length c]) (ho:pre.length=o) (hz:s.md=false→A=none∧c=0∧l=[]) (hx:∀ x∈l,rfP x) (hf:s.fit (qc6 qc0 l).length):Calls Tryz.prog 158 #[pq E.gf 0,pq b o,.func (.func 42) #[pq E.gf 0] #[]] w (LsP E N t b pre post (stp (qc6 qc0) (Rd.list 1024 qd3) s l).1 s.md (qa6 rfC) 26 8 (stp (qc6 qc0) (Rd.list 1024 qd3) s l).2 w):=by
 cases s with
 | w l0=>exact lsRf_w hF hL hH ho hx hf
 | r rd =>
  obtain⟨rfl,rfl,rfl⟩:=hz rfl;exact lsRf_r hF hH ho
end
theorem i_lsIn:(Tryz.prog.info? 99).map (fun i=>(i.zero,i.size,i.bytes))=some (some (.agg #[iv 0,uv 0,iv 0]),3,24):=by kernel_rfl
section
variable {E:Env} {N:Nat→Prop} {t:TypeId} {b o c:Nat} {A:Option Addr} {pre post:List Value} {w:World} {rd:Rd} {s:Fs} {l:List In}
theorem lsIn_r (hF:Fm E N w (.r rd)) (hH:Hd E N t b pre post false w [sn]) (ho:pre.length=o):Calls Tryz.prog 118 #[pq E.gf 0,pq b o,.func (.func 119) #[pq E.gf 0] #[]] w (LsP E N t b pre post (.r (rd.list 1024 qf9).2) false (qa6 inC) 99 3 (rd.list 1024 qf9).1 w):=by
 have hbt:¬ (fun _=>False) t:=id;have hB:=hH;unfold Hd at hB;rw[if_neg (by simp)] at hB;have HF:=hF;obtain⟨hbk,hr,hgg,hbb⟩:=HF;obtain⟨csr,hcsr⟩:=hr.bkq;have HW:Hid (PW E b w):=lh ⟨hB.1.lt,hcsr.lt,hbk.lt,hbb,hB.2.1,hB.2.2.1,hB.2.2.2⟩;have hcl:=Rd.count_len (most:=1024) hr.b8;have hcm:=Rd.count_le (r:=rd) (most:=1024) (by decide);have hld:rd.list 1024 qf9=rep qf9 (rd.count 1024).2 (rd.count 1024).1.toNat:=rfl;rw[hld];have cC:=qm2 hr hbb (show(0:Int)≤1024 by decide) (by decide)
 obtain⟨⟨n',r1⟩,hq⟩:∃ p,p=rd.count 1024:=⟨_,rfl⟩
 rw[← hq] at cC hcl hcm ⊢;dsimp only at cC hcl hcm ⊢;obtain⟨n,rfl⟩:=Int.eq_ofNat_of_zero_le hcl.1;rw[Int.toNat_natCast];have hn:n≤1024:=by omega
 obtain⟨gf,hgf⟩:∃ gf,gf=E.gf:=⟨_,rfl⟩
 obtain⟨g,hg⟩:∃ g,g=E.g:=⟨_,rfl⟩
 have c1:w.cell? ⟨gf,1,none⟩=some (pq g 0):=by rw[hgf,hg];exact hbk.cell 1
 rw[← hgf];rw[← hg] at cC;have HGF:=lh (And.intro hgf hg);have H0:=lh (And.intro hF (And.intro hB.1 (And.intro hbt ho)));clear hH hF hB hbk hr hgg hbb hcsr hcl hcm hld hq hgf hg hbt ho
 go_enter Tryz.func118,Tryz.ntmps118
 go_wp2_with fail
 refine cC.mono ?_;rintro e wc ⟨rfl,hrc,hkc⟩
 have hPE:PE E N t b pre post (qa6 inC) 99 3 w (.r (rep qf9 r1 0).2) (sn) (sn) 0 [] (rep qf9 r1 0).1 wc:=by
  have hk:=hkc;rw[HGF.o.2] at hk hrc;refine⟨⟨H0.o.1.1.kp hk H0.o.1.2.2.1,hrc,H0.o.1.2.2.1,Nat.lt_of_lt_of_le H0.o.1.2.2.2 hk.size⟩,H0.o.2.1.kp hk HW.o.n2,World.ownsRow_nil _ _ _ _,Els.nil _ _ _,hk.mono fun _ _ h=>.inl h⟩
 have HPE:=lh hPE;clear cC hrc hkc hPE c1
 go_wp2_with fail
 go_loopw [46] (fun ix wr=>∃ (i:Nat) (A:Option Addr) (c:Nat) (xs:List Value),ix=iv (i:Int)∧i≤n∧PE E N t b pre post (qa6 inC) 99 3 w (.r (rep qf9 r1 i).2) (.slice A i c) (.slice A i c) i xs (rep qf9 r1 i).1 wr) (fun ix _=>n - (intOf ix).toNat)
 case atStart=>exact⟨0,none,0,[],rfl,Nat.zero_le _,HPE.o⟩
 case round =>
  clear HPE;obtain⟨i,A,c,xs,rfl,hi,hpe⟩:=hrel;have HP:=lh hpe
  by_cases hlt:i < n
  ·obtain⟨ri,hri⟩:∃ ri,ri=(rep qf9 r1 i).2:=⟨_,rfl⟩
   rw[← hri] at hpe HP
   obtain⟨w1,hw1⟩:∃ w1,w1=wr.alloc (.cells #[iv 0,uv 0,iv 0] 99):=⟨_,rfl⟩
   obtain⟨xb,hxb⟩:∃ xb,xb=wr.heap.size:=⟨_,rfl⟩
   have hb1:bw wr w1:=by rw[hw1];exact(Below.refl _ _).alloc (Nat.le_refl _) _
   have hx1:Bk w1 xb 99 #[iv 0,uv 0,iv 0]:=by rw[hw1,hxb];exact Bk.new _ _ _
   have hwz:=hpe.kp.size
   have hHx:Hd E N 99 xb [] [] false w1 [iv 0,uv 0,iv 0]:=by
    unfold Hd;rw[if_neg (by simp)];refine⟨hx1,?_⟩;have:=HW.o;exact⟨by have:=this.lf;omega,by have:=this.lg;omega,by have:=this.lbb;omega⟩
   have cM:=inE_any (s:=.r ri) (x:=In.zero) (r:=[iv 0,uv 0,iv 0]) (o:=0) (hpe.fm.below hb1) (rfl) hHx rfl (by refine⟨?_,?_,?_⟩ <;> simp[In.zero,I64,P64]) trivial;have hs:stp qe0 qf9 (.r ri) In.zero=(.r (qf9 ri).2,(qf9 ri).1):=rfl;rw[hs] at cM;dsimp only at cM
   obtain⟨⟨x',r2⟩,hx'⟩:∃ p,p=qf9 ri:=⟨_,rfl⟩
   rw[← hx'] at cM;dsimp only at cM;rw[← HGF.o.1] at cM;have HX:=lh (And.intro hx' (And.intro hri (And.intro hb1 (And.intro hx1 hxb))));clear hpe hx' hri hb1 hx1 hHx hs hwz
   go_upto_region 10 with fail
   rw[← hw1,← hxb];clear hw1 hxb
   go_wp2_with fail
   refine cM.mono ?_;rintro e w2 ⟨rfl,hF2,⟨rx,hrx,hHx2⟩,hfr2⟩
   have hpd:PD E N t b pre post (qa6 inC) 99 3 w (.r r2) (.slice A i c) (.slice A i c) i xs (rep qf9 r1 i).1 xb rx x' w2:=by
    have e:=HX.o.2.2.2.2;have h1:=HX.o.2.2.2.1;subst e;exact PE.read (qa0 inC) (by decide) (by decide) HW.o HP.o HX.o.2.2.1 (rx:=[iv 0,uv 0,iv 0]) h1 hF2 hHx2 hrx hfr2
   clear cM hF2 hHx2 hfr2;obtain rfl:rx=inC x':=hrx;unfold inC at hpd;have HD:=lh hpd;clear hpd
   try clear hrx
   obtain⟨i5,hi5,hz0,hz1,hz2⟩:=info_parts i_lsIn;have HIN:=lh (And.intro hi5 (And.intro hz0 (And.intro hz1 hz2)));clear hi5 hz0 hz1 hz2
   obtain⟨lr,hlr⟩:∃ lr,lr=(rep qf9 r1 i).1:=⟨_,rfl⟩
   rw[← hlr] at HD;have HLR:=lh hlr;clear hlr
   go_wp2_with fail
   refine qc9 9 (fun i=>([[],[],[1],[2],[],[4],[3,5],[0],[6,7]]:List (List Nat)).getD i []) [5,6,8] (fun i=>([2,1,1,1,0,0,0,2,0]:List Nat).getD i 0) (fun zz=>([pq b o,pq b o,pq b o,.slice A i c,.agg #[iv x'.client,uv x'.number,iv x'.out],bf,bf,pq b o,bf]:List Value).getD zz (bf)) (PqS (PD E N t b pre post (qa6 inC) 99 3 w (.r r2) (.slice A i c) (.slice A i c) i xs lr xb [iv x'.client,uv x'.number,iv x'.out] x') (fun v w1=>PD E N t b pre post (qa6 inC) 99 3 w (.r r2) (.slice A i c) (.slice A i c) i xs lr xb [iv x'.client,uv x'.number,iv x'.out] x' w1∧∃ kk,v=.slice (some ⟨kk,0,none⟩) 1 1∧Sl w1 3 (some ⟨kk,0,none⟩) 1 [iv x'.client,uv x'.number,iv x'.out]) (fun v w1=>∃ A' c',v=.slice A' (i+1) c'∧PE E N t b pre post (qa6 inC) 99 3 w (.r r2) (.slice A i c) (.slice A' (i+1) c') (i+1) (xs++[iv x'.client,uv x'.number,iv x'.out]) (lr++[x']) w1) (fun w1=>∃ A' c',PE E N t b pre post (qa6 inC) 99 3 w (.r r2) (.slice A' (i+1) c') (.slice A' (i+1) c') (i+1) (xs++[iv x'.client,uv x'.number,iv x'.out]) (lr++[x']) w1)) rfl (by kernel_rfl) (by rfl) (by kernel_rfl) ?_ ?_ ?_ ?_
   ·exact HD.o.drew (qa0 inC)
   ·intro zi hzi hn zo ho k vs w1 hk hlow hS hvs;rcases (show zi=0 ∨ zi=1 ∨ zi=2 ∨ zi=3 ∨ zi=4 ∨ zi=5 ∨ zi=6 ∨ zi=7 ∨ zi=8 by omega) with rfl | rfl | rfl | rfl | rfl | rfl | rfl | rfl | rfl <;> cases ho
    ·clear hS hvs hlow hk hn;change Sem.run _ (execOp (Act.eval (frm _ _ _ [])) _) _=_;simp only[frm];go_simp
    ·clear hS hvs hlow hk hn;change Sem.run _ (execOp (Act.eval (frm _ _ _ [])) _) _=_;simp only[frm];go_simp
    ·have h1:vs 1=pq b o:=hvs 1 (by decide) (by decide);clear hS hvs hlow hk hn;change Sem.run _ (execOp (Act.eval (Act.put (frm _ _ _ []) (some 51) (vs 1))) _) _=_;simp only[frm,h1];go_simp
    ·have h2:vs 2=pq b o:=hvs 2 (by decide) (by decide);replace hk:k≤1:=hk
     have hpl:Bk w1 b t (pre++[Value.slice A i c]++post).toArray:=by
      rcases (show k=0 ∨ k=1 by omega) with rfl | rfl
      ·exact(show PD E N t b pre post (qa6 inC) 99 3 w (.r r2) (.slice A i c) (.slice A i c) i xs lr xb [iv x'.client,uv x'.number,iv x'.out] x' w1 from hS).pl
      ·exact(show(fun v w1=>PD E N t b pre post (qa6 inC) 99 3 w (.r r2) (.slice A i c) (.slice A i c) i xs lr xb [iv x'.client,uv x'.number,iv x'.out] x' w1∧∃ kk,v=.slice (some ⟨kk,0,none⟩) 1 1∧Sl w1 3 (some ⟨kk,0,none⟩) 1 [iv x'.client,uv x'.number,iv x'.out]) (vs 5) w1 from hS).1.pl
     have c0:w1.cell? ⟨b,o,none⟩=some (.slice A i c):=by rw[hpl.cell,← H0.o.2.2.2];simp
     clear hpl;clear hS hvs hlow hk hn;change Sem.run _ (execOp (Act.eval (Act.put (frm _ _ _ []) (some 52) (vs 2))) _) _=_;simp only[frm,h2];go_simp
    ·replace hk:k≤0:=hk;obtain rfl:k=0:=by omega
     replace hS:PD E N t b pre post (qa6 inC) 99 3 w (.r r2) (.slice A i c) (.slice A i c) i xs lr xb [iv x'.client,uv x'.number,iv x'.out] x' w1:=hS;have k0:cl w1 xb 0 (iv x'.client):=hS.bx.cell 0;have k1:cl w1 xb 1 (uv x'.number):=hS.bx.cell 1;have k2:cl w1 xb 2 (iv x'.out):=hS.bx.cell 2;clear hS hvs hlow hk hn;change Sem.run _ (execOp (Act.eval (frm _ _ _ [])) _) _=_;simp only[frm];go_simp
    ·exact absurd (by decide) hn
    ·exact absurd (by decide) hn
    ·have h0:vs 0=pq b o:=hvs 0 (by decide) (by decide);clear hS hvs hlow hk hn;change Sem.run _ (execOp (Act.eval (Act.put (frm _ _ _ []) (some 50) (vs 0))) _) _=_;simp only[frm,h0];go_simp
    ·exact absurd (by decide) hn
   ·intro p hp o ho vs w1 hS hvs;rcases (show p=0 ∨ p=1 ∨ p=2 by change p < 3 at hp;omega) with rfl | rfl | rfl <;> cases ho
    ·replace hS:PD E N t b pre post (qa6 inC) 99 3 w (.r r2) (.slice A i c) (.slice A i c) i xs lr xb [iv x'.client,uv x'.number,iv x'.out] x' w1:=hS;have h4:vs 4=.agg #[iv x'.client,uv x'.number,iv x'.out]:=hvs 4 (by decide) (by decide)
     show Made _ (fun v w1=>PD E N t b pre post (qa6 inC) 99 3 w (.r r2) (.slice A i c) (.slice A i c) i xs lr xb [iv x'.client,uv x'.number,iv x'.out] x' w1∧∃ kk,v=.slice (some ⟨kk,0,none⟩) 1 1∧Sl w1 3 (some ⟨kk,0,none⟩) 1 [iv x'.client,uv x'.number,iv x'.out]) _
     change Made _ _ (Sem.run _ (execOp (Act.eval (Act.put (frm _ _ _ []) (some 54) (vs 4))) _) _);simp only[frm,h4];have HS1:=lh hS;clear hS hvs h4;go_simp;have hb:bw w1 (w1.alloc (.cells #[iv x'.client,uv x'.number,iv x'.out] 99)):=(Below.refl _ _).alloc (Nat.le_refl _) _;exact qa5 ⟨HS1.o.below (qa0 inC) hb,_,rfl,Sl.one (w:=w1) 99 #[iv x'.client,uv x'.number,iv x'.out] (by simp)⟩
    ·replace hS:(fun v w1=>PD E N t b pre post (qa6 inC) 99 3 w (.r r2) (.slice A i c) (.slice A i c) i xs lr xb [iv x'.client,uv x'.number,iv x'.out] x' w1∧∃ kk,v=.slice (some ⟨kk,0,none⟩) 1 1∧Sl w1 3 (some ⟨kk,0,none⟩) 1 [iv x'.client,uv x'.number,iv x'.out]) (vs 5) w1:=hS;have h3:vs 3=.slice A i c:=hvs 3 (by decide) (by decide)
     show Made _ (fun v w1=>∃ A' c',v=.slice A' (i+1) c'∧PE E N t b pre post (qa6 inC) 99 3 w (.r r2) (.slice A i c) (.slice A' (i+1) c') (i+1) (xs++[iv x'.client,uv x'.number,iv x'.out]) (lr++[x']) w1) _
     change Made _ _ (Sem.run _ (execOp (Act.eval (Act.put (Act.put (frm _ _ _ []) (some 55) (vs 5)) (some 53) (vs 3))) _) _);obtain⟨hpd,kk,hv5,hsl⟩:=hS;simp only[frm,h3,hv5];have HS1:=lh hpd;have HSS:=lh hsl;have hsz:w.heap.size≤w1.heap.size:=hpd.kp.size;clear hvs hpd hv5 hsl h3;refine qg9 (.tmp 53) (.tmp 55) 35 rfl Tryz.underlying35 HIN.o.1 HIN.o.2.1 HIN.o.2.2.1 HIN.o.2.2.2 rfl (by decide) rfl HS1.o.row rfl HSS.o (by simp[Value.oneCell']) (by unfold maxLen;omega) (by omega) hsz ?_;intro v' w' ho' hg' h4';obtain⟨A',c',rfl,_⟩:=qc1 ho';exact⟨A',c',rfl,HS1.o.grow (qa0 inC) (by decide) HW.o rfl hg' ho'⟩
    ·replace hS:(fun v w1=>∃ A' c',v=.slice A' (i+1) c'∧PE E N t b pre post (qa6 inC) 99 3 w (.r r2) (.slice A i c) (.slice A' (i+1) c') (i+1) (xs++[iv x'.client,uv x'.number,iv x'.out]) (lr++[x']) w1) (vs 6) w1:=hS;have h7:vs 7=pq b o:=hvs 7 (by decide) (by decide)
     show Made _ (fun _=>(fun w1=>∃ A' c',PE E N t b pre post (qa6 inC) 99 3 w (.r r2) (.slice A' (i+1) c') (.slice A' (i+1) c') (i+1) (xs++[iv x'.client,uv x'.number,iv x'.out]) (lr++[x']) w1)) _
     change Made _ _ (Sem.run _ (execOp (Act.eval (Act.put (Act.put (frm _ _ _ []) (some 57) (vs 7)) (some 56) (vs 6))) _) _);obtain⟨A',c',hv6,hpe⟩:=hS;simp only[frm,h7,hv6];have HS1:=lh hpe;have c0:w1.cell? ⟨b,o,none⟩=some (.slice A i c):=by rw[hpe.pl.cell,← H0.o.2.2.2];simp
     have f0:w1.frozen? ⟨b,o,none⟩=false:=hpe.pl.free o;clear hvs hpe hv6 h7;go_simp;have h9:=HS1.o.store (V':=.slice A' (i+1) c') (qa0 inC) H0.o.2.2.1 HW.o;rw[H0.o.2.2.2] at h9;exact qa7 (T:=fun _=>fun w1=>∃ A' c',PE E N t b pre post (qa6 inC) 99 3 w (.r r2) (.slice A' (i+1) c') (.slice A' (i+1) c') (i+1) (xs++[iv x'.client,uv x'.number,iv x'.out]) (lr++[x']) w1) ⟨A',c',h9⟩
   ·intro vs w5 hS hvs;replace hS:(fun w1=>∃ A' c',PE E N t b pre post (qa6 inC) 99 3 w (.r r2) (.slice A' (i+1) c') (.slice A' (i+1) c') (i+1) (xs++[iv x'.client,uv x'.number,iv x'.out]) (lr++[x']) w1) w5:=hS;change wpList _ _ _ [] (Act.put (Act.put (Act.put (Act.put (Act.put (Act.put (Act.put (Act.put (Act.put (frm _ _ _ []) none (vs 8)) (some 57) (vs 7)) (some 56) (vs 6)) (some 55) (vs 5)) (some 54) (vs 4)) (some 53) (vs 3)) (some 52) (vs 2)) (some 51) (vs 1)) (some 50) (vs 0)) _;simp only[frm];clear hvs;generalize vs 0=z0;generalize vs 1=z1;generalize vs 2=z2;generalize vs 3=z3;generalize vs 4=z4;generalize vs 5=z5;generalize vs 6=z6;generalize vs 7=z7;generalize vs 8=z8;obtain⟨A',c',hpe⟩:=hS;have HP5:=lh hpe;clear hpe
    go_wp2_with fail
    go_roundw
    case rel =>
     have e1:rep qf9 r1 (i+1)=(lr++[x'],r2):=by
      have:rep qf9 r1 (i+1)=((rep qf9 r1 i).1++[(qf9 (rep qf9 r1 i).2).1],(qf9 (rep qf9 r1 i).2).2):=rfl;rw[this,← HX.o.2.1,← HX.o.1,← HLR.o]
     exact⟨i+1,A',c',_,by go_num,hlt,by rw[e1];exact HP5.o⟩
    case measure=>simp[intOf];omega
  ·have hin:i=n:=by omega
   rw[hin] at hpe;clear hpe;have hpe:=HP.o;rw[hin] at hpe;have HE:=lh hpe;clear hpe hin HP
   go_wp2_with fail
   go_end0
   refine⟨rfl,HE.o.fm,⟨A,c,?_,?_⟩,?_⟩
   ·unfold LsR;rw[if_neg (by simp),qh8];exact⟨xs,qo0 HE.o.row (Nat.zero_le _),HE.o.els⟩
   ·unfold Hd;rw[if_neg (by simp),qh8];exact⟨HE.o.pl,HW.o.n1,HW.o.n2,HW.o.n3⟩
   ·unfold Fr;rw[qe5];exact HE.o.kp
theorem lsIn_any (hF:Fm E N w s) (hL:LsR (qa6 inC) 99 3 s.md N w A c l) (hH:Hd E N t b pre post s.md w [.slice A l.length c]) (ho:pre.length=o) (hz:s.md=false→A=none∧c=0∧l=[]) (hx:∀ x∈l,inP x) (hf:s.fit (qc6 qe0 l).length):Calls Tryz.prog 118 #[pq E.gf 0,pq b o,.func (.func 119) #[pq E.gf 0] #[]] w (LsP E N t b pre post (stp (qc6 qe0) (Rd.list 1024 qf9) s l).1 s.md (qa6 inC) 99 3 (stp (qc6 qe0) (Rd.list 1024 qf9) s l).2 w):=by
 cases s with
 | w l0=>exact lsIn_w hF hL hH ho hx hf
 | r rd =>
  obtain⟨rfl,rfl,rfl⟩:=hz rfl;exact lsIn_r hF hH ho
end
theorem i_lsNd:(Tryz.prog.info? 136).map (fun i=>(i.zero,i.size,i.bytes))=some (some (.agg #[iv 0,uv 0,iv 0]),3,24):=by kernel_rfl
section
variable {E:Env} {N:Nat→Prop} {t:TypeId} {b o c:Nat} {A:Option Addr} {pre post:List Value} {w:World} {rd:Rd} {s:Fs} {l:List Nd}
theorem lsNd_r (hF:Fm E N w (.r rd)) (hH:Hd E N t b pre post false w [sn]) (ho:pre.length=o):Calls Tryz.prog 120 #[pq E.gf 0,pq b o,.func (.func 121) #[pq E.gf 0] #[]] w (LsP E N t b pre post (.r (rd.list 1024 qe9).2) false (qa6 ndC) 136 3 (rd.list 1024 qe9).1 w):=by
 have hbt:¬ (fun _=>False) t:=id;have hB:=hH;unfold Hd at hB;rw[if_neg (by simp)] at hB;have HF:=hF;obtain⟨hbk,hr,hgg,hbb⟩:=HF;obtain⟨csr,hcsr⟩:=hr.bkq;have HW:Hid (PW E b w):=lh ⟨hB.1.lt,hcsr.lt,hbk.lt,hbb,hB.2.1,hB.2.2.1,hB.2.2.2⟩;have hcl:=Rd.count_len (most:=1024) hr.b8;have hcm:=Rd.count_le (r:=rd) (most:=1024) (by decide);have hld:rd.list 1024 qe9=rep qe9 (rd.count 1024).2 (rd.count 1024).1.toNat:=rfl;rw[hld];have cC:=qm2 hr hbb (show(0:Int)≤1024 by decide) (by decide)
 obtain⟨⟨n',r1⟩,hq⟩:∃ p,p=rd.count 1024:=⟨_,rfl⟩
 rw[← hq] at cC hcl hcm ⊢;dsimp only at cC hcl hcm ⊢;obtain⟨n,rfl⟩:=Int.eq_ofNat_of_zero_le hcl.1;rw[Int.toNat_natCast];have hn:n≤1024:=by omega
 obtain⟨gf,hgf⟩:∃ gf,gf=E.gf:=⟨_,rfl⟩
 obtain⟨g,hg⟩:∃ g,g=E.g:=⟨_,rfl⟩
 have c1:w.cell? ⟨gf,1,none⟩=some (pq g 0):=by rw[hgf,hg];exact hbk.cell 1
 rw[← hgf];rw[← hg] at cC;have HGF:=lh (And.intro hgf hg);have H0:=lh (And.intro hF (And.intro hB.1 (And.intro hbt ho)));clear hH hF hB hbk hr hgg hbb hcsr hcl hcm hld hq hgf hg hbt ho
 go_enter Tryz.func120,Tryz.ntmps120
 go_wp2_with fail
 refine cC.mono ?_;rintro e wc ⟨rfl,hrc,hkc⟩
 have hPE:PE E N t b pre post (qa6 ndC) 136 3 w (.r (rep qe9 r1 0).2) (sn) (sn) 0 [] (rep qe9 r1 0).1 wc:=by
  have hk:=hkc;rw[HGF.o.2] at hk hrc;refine⟨⟨H0.o.1.1.kp hk H0.o.1.2.2.1,hrc,H0.o.1.2.2.1,Nat.lt_of_lt_of_le H0.o.1.2.2.2 hk.size⟩,H0.o.2.1.kp hk HW.o.n2,World.ownsRow_nil _ _ _ _,Els.nil _ _ _,hk.mono fun _ _ h=>.inl h⟩
 have HPE:=lh hPE;clear cC hrc hkc hPE c1
 go_wp2_with fail
 go_loopw [46] (fun ix wr=>∃ (i:Nat) (A:Option Addr) (c:Nat) (xs:List Value),ix=iv (i:Int)∧i≤n∧PE E N t b pre post (qa6 ndC) 136 3 w (.r (rep qe9 r1 i).2) (.slice A i c) (.slice A i c) i xs (rep qe9 r1 i).1 wr) (fun ix _=>n - (intOf ix).toNat)
 case atStart=>exact⟨0,none,0,[],rfl,Nat.zero_le _,HPE.o⟩
 case round =>
  clear HPE;obtain⟨i,A,c,xs,rfl,hi,hpe⟩:=hrel;have HP:=lh hpe
  by_cases hlt:i < n
  ·obtain⟨ri,hri⟩:∃ ri,ri=(rep qe9 r1 i).2:=⟨_,rfl⟩
   rw[← hri] at hpe HP
   obtain⟨w1,hw1⟩:∃ w1,w1=wr.alloc (.cells #[iv 0,uv 0,iv 0] 136):=⟨_,rfl⟩
   obtain⟨xb,hxb⟩:∃ xb,xb=wr.heap.size:=⟨_,rfl⟩
   have hb1:bw wr w1:=by rw[hw1];exact(Below.refl _ _).alloc (Nat.le_refl _) _
   have hx1:Bk w1 xb 136 #[iv 0,uv 0,iv 0]:=by rw[hw1,hxb];exact Bk.new _ _ _
   have hwz:=hpe.kp.size
   have hHx:Hd E N 136 xb [] [] false w1 [iv 0,uv 0,iv 0]:=by
    unfold Hd;rw[if_neg (by simp)];refine⟨hx1,?_⟩;have:=HW.o;exact⟨by have:=this.lf;omega,by have:=this.lg;omega,by have:=this.lbb;omega⟩
   have cM:=ndE_any (s:=.r ri) (x:=Nd.zero) (r:=[iv 0,uv 0,iv 0]) (o:=0) (hpe.fm.below hb1) (rfl) hHx rfl (by refine⟨?_,?_,?_⟩ <;> simp[Nd.zero,I64,P64]) trivial;have hs:stp qd4 qe9 (.r ri) Nd.zero=(.r (qe9 ri).2,(qe9 ri).1):=rfl;rw[hs] at cM;dsimp only at cM
   obtain⟨⟨x',r2⟩,hx'⟩:∃ p,p=qe9 ri:=⟨_,rfl⟩
   rw[← hx'] at cM;dsimp only at cM;rw[← HGF.o.1] at cM;have HX:=lh (And.intro hx' (And.intro hri (And.intro hb1 (And.intro hx1 hxb))));clear hpe hx' hri hb1 hx1 hHx hs hwz
   go_upto_region 10 with fail
   rw[← hw1,← hxb];clear hw1 hxb
   go_wp2_with fail
   refine cM.mono ?_;rintro e w2 ⟨rfl,hF2,⟨rx,hrx,hHx2⟩,hfr2⟩
   have hpd:PD E N t b pre post (qa6 ndC) 136 3 w (.r r2) (.slice A i c) (.slice A i c) i xs (rep qe9 r1 i).1 xb rx x' w2:=by
    have e:=HX.o.2.2.2.2;have h1:=HX.o.2.2.2.1;subst e;exact PE.read (qa0 ndC) (by decide) (by decide) HW.o HP.o HX.o.2.2.1 (rx:=[iv 0,uv 0,iv 0]) h1 hF2 hHx2 hrx hfr2
   clear cM hF2 hHx2 hfr2;obtain rfl:rx=ndC x':=hrx;unfold ndC at hpd;have HD:=lh hpd;clear hpd
   try clear hrx
   obtain⟨i5,hi5,hz0,hz1,hz2⟩:=info_parts i_lsNd;have HIN:=lh (And.intro hi5 (And.intro hz0 (And.intro hz1 hz2)));clear hi5 hz0 hz1 hz2
   obtain⟨lr,hlr⟩:∃ lr,lr=(rep qe9 r1 i).1:=⟨_,rfl⟩
   rw[← hlr] at HD;have HLR:=lh hlr;clear hlr
   go_wp2_with fail
   refine qc9 9 (fun i=>([[],[],[1],[2],[],[4],[3,5],[0],[6,7]]:List (List Nat)).getD i []) [5,6,8] (fun i=>([2,1,1,1,0,0,0,2,0]:List Nat).getD i 0) (fun zz=>([pq b o,pq b o,pq b o,.slice A i c,.agg #[iv x'.peer,uv x'.number,iv x'.stamp],bf,bf,pq b o,bf]:List Value).getD zz (bf)) (PqS (PD E N t b pre post (qa6 ndC) 136 3 w (.r r2) (.slice A i c) (.slice A i c) i xs lr xb [iv x'.peer,uv x'.number,iv x'.stamp] x') (fun v w1=>PD E N t b pre post (qa6 ndC) 136 3 w (.r r2) (.slice A i c) (.slice A i c) i xs lr xb [iv x'.peer,uv x'.number,iv x'.stamp] x' w1∧∃ kk,v=.slice (some ⟨kk,0,none⟩) 1 1∧Sl w1 3 (some ⟨kk,0,none⟩) 1 [iv x'.peer,uv x'.number,iv x'.stamp]) (fun v w1=>∃ A' c',v=.slice A' (i+1) c'∧PE E N t b pre post (qa6 ndC) 136 3 w (.r r2) (.slice A i c) (.slice A' (i+1) c') (i+1) (xs++[iv x'.peer,uv x'.number,iv x'.stamp]) (lr++[x']) w1) (fun w1=>∃ A' c',PE E N t b pre post (qa6 ndC) 136 3 w (.r r2) (.slice A' (i+1) c') (.slice A' (i+1) c') (i+1) (xs++[iv x'.peer,uv x'.number,iv x'.stamp]) (lr++[x']) w1)) rfl (by kernel_rfl) (by rfl) (by kernel_rfl) ?_ ?_ ?_ ?_
   ·exact HD.o.drew (qa0 ndC)
   ·intro zi hzi hn zo ho k vs w1 hk hlow hS hvs;rcases (show zi=0 ∨ zi=1 ∨ zi=2 ∨ zi=3 ∨ zi=4 ∨ zi=5 ∨ zi=6 ∨ zi=7 ∨ zi=8 by omega) with rfl | rfl | rfl | rfl | rfl | rfl | rfl | rfl | rfl <;> cases ho
    ·clear hS hvs hlow hk hn;change Sem.run _ (execOp (Act.eval (frm _ _ _ [])) _) _=_;simp only[frm];go_simp
    ·clear hS hvs hlow hk hn;change Sem.run _ (execOp (Act.eval (frm _ _ _ [])) _) _=_;simp only[frm];go_simp
    ·have h1:vs 1=pq b o:=hvs 1 (by decide) (by decide);clear hS hvs hlow hk hn;change Sem.run _ (execOp (Act.eval (Act.put (frm _ _ _ []) (some 51) (vs 1))) _) _=_;simp only[frm,h1];go_simp
    ·have h2:vs 2=pq b o:=hvs 2 (by decide) (by decide);replace hk:k≤1:=hk
     have hpl:Bk w1 b t (pre++[Value.slice A i c]++post).toArray:=by
      rcases (show k=0 ∨ k=1 by omega) with rfl | rfl
      ·exact(show PD E N t b pre post (qa6 ndC) 136 3 w (.r r2) (.slice A i c) (.slice A i c) i xs lr xb [iv x'.peer,uv x'.number,iv x'.stamp] x' w1 from hS).pl
      ·exact(show(fun v w1=>PD E N t b pre post (qa6 ndC) 136 3 w (.r r2) (.slice A i c) (.slice A i c) i xs lr xb [iv x'.peer,uv x'.number,iv x'.stamp] x' w1∧∃ kk,v=.slice (some ⟨kk,0,none⟩) 1 1∧Sl w1 3 (some ⟨kk,0,none⟩) 1 [iv x'.peer,uv x'.number,iv x'.stamp]) (vs 5) w1 from hS).1.pl
     have c0:w1.cell? ⟨b,o,none⟩=some (.slice A i c):=by rw[hpl.cell,← H0.o.2.2.2];simp
     clear hpl;clear hS hvs hlow hk hn;change Sem.run _ (execOp (Act.eval (Act.put (frm _ _ _ []) (some 52) (vs 2))) _) _=_;simp only[frm,h2];go_simp
    ·replace hk:k≤0:=hk;obtain rfl:k=0:=by omega
     replace hS:PD E N t b pre post (qa6 ndC) 136 3 w (.r r2) (.slice A i c) (.slice A i c) i xs lr xb [iv x'.peer,uv x'.number,iv x'.stamp] x' w1:=hS;have k0:cl w1 xb 0 (iv x'.peer):=hS.bx.cell 0;have k1:cl w1 xb 1 (uv x'.number):=hS.bx.cell 1;have k2:cl w1 xb 2 (iv x'.stamp):=hS.bx.cell 2;clear hS hvs hlow hk hn;change Sem.run _ (execOp (Act.eval (frm _ _ _ [])) _) _=_;simp only[frm];go_simp
    ·exact absurd (by decide) hn
    ·exact absurd (by decide) hn
    ·have h0:vs 0=pq b o:=hvs 0 (by decide) (by decide);clear hS hvs hlow hk hn;change Sem.run _ (execOp (Act.eval (Act.put (frm _ _ _ []) (some 50) (vs 0))) _) _=_;simp only[frm,h0];go_simp
    ·exact absurd (by decide) hn
   ·intro p hp o ho vs w1 hS hvs;rcases (show p=0 ∨ p=1 ∨ p=2 by change p < 3 at hp;omega) with rfl | rfl | rfl <;> cases ho
    ·replace hS:PD E N t b pre post (qa6 ndC) 136 3 w (.r r2) (.slice A i c) (.slice A i c) i xs lr xb [iv x'.peer,uv x'.number,iv x'.stamp] x' w1:=hS;have h4:vs 4=.agg #[iv x'.peer,uv x'.number,iv x'.stamp]:=hvs 4 (by decide) (by decide)
     show Made _ (fun v w1=>PD E N t b pre post (qa6 ndC) 136 3 w (.r r2) (.slice A i c) (.slice A i c) i xs lr xb [iv x'.peer,uv x'.number,iv x'.stamp] x' w1∧∃ kk,v=.slice (some ⟨kk,0,none⟩) 1 1∧Sl w1 3 (some ⟨kk,0,none⟩) 1 [iv x'.peer,uv x'.number,iv x'.stamp]) _
     change Made _ _ (Sem.run _ (execOp (Act.eval (Act.put (frm _ _ _ []) (some 54) (vs 4))) _) _);simp only[frm,h4];have HS1:=lh hS;clear hS hvs h4;go_simp;have hb:bw w1 (w1.alloc (.cells #[iv x'.peer,uv x'.number,iv x'.stamp] 136)):=(Below.refl _ _).alloc (Nat.le_refl _) _;exact qa5 ⟨HS1.o.below (qa0 ndC) hb,_,rfl,Sl.one (w:=w1) 136 #[iv x'.peer,uv x'.number,iv x'.stamp] (by simp)⟩
    ·replace hS:(fun v w1=>PD E N t b pre post (qa6 ndC) 136 3 w (.r r2) (.slice A i c) (.slice A i c) i xs lr xb [iv x'.peer,uv x'.number,iv x'.stamp] x' w1∧∃ kk,v=.slice (some ⟨kk,0,none⟩) 1 1∧Sl w1 3 (some ⟨kk,0,none⟩) 1 [iv x'.peer,uv x'.number,iv x'.stamp]) (vs 5) w1:=hS;have h3:vs 3=.slice A i c:=hvs 3 (by decide) (by decide)
     show Made _ (fun v w1=>∃ A' c',v=.slice A' (i+1) c'∧PE E N t b pre post (qa6 ndC) 136 3 w (.r r2) (.slice A i c) (.slice A' (i+1) c') (i+1) (xs++[iv x'.peer,uv x'.number,iv x'.stamp]) (lr++[x']) w1) _
     change Made _ _ (Sem.run _ (execOp (Act.eval (Act.put (Act.put (frm _ _ _ []) (some 55) (vs 5)) (some 53) (vs 3))) _) _);obtain⟨hpd,kk,hv5,hsl⟩:=hS;simp only[frm,h3,hv5];have HS1:=lh hpd;have HSS:=lh hsl;have hsz:w.heap.size≤w1.heap.size:=hpd.kp.size;clear hvs hpd hv5 hsl h3;refine qg9 (.tmp 53) (.tmp 55) 38 rfl Tryz.underlying38 HIN.o.1 HIN.o.2.1 HIN.o.2.2.1 HIN.o.2.2.2 rfl (by decide) rfl HS1.o.row rfl HSS.o (by simp[Value.oneCell']) (by unfold maxLen;omega) (by omega) hsz ?_;intro v' w' ho' hg' h4';obtain⟨A',c',rfl,_⟩:=qc1 ho';exact⟨A',c',rfl,HS1.o.grow (qa0 ndC) (by decide) HW.o rfl hg' ho'⟩
    ·replace hS:(fun v w1=>∃ A' c',v=.slice A' (i+1) c'∧PE E N t b pre post (qa6 ndC) 136 3 w (.r r2) (.slice A i c) (.slice A' (i+1) c') (i+1) (xs++[iv x'.peer,uv x'.number,iv x'.stamp]) (lr++[x']) w1) (vs 6) w1:=hS;have h7:vs 7=pq b o:=hvs 7 (by decide) (by decide)
     show Made _ (fun _=>(fun w1=>∃ A' c',PE E N t b pre post (qa6 ndC) 136 3 w (.r r2) (.slice A' (i+1) c') (.slice A' (i+1) c') (i+1) (xs++[iv x'.peer,uv x'.number,iv x'.stamp]) (lr++[x']) w1)) _
     change Made _ _ (Sem.run _ (execOp (Act.eval (Act.put (Act.put (frm _ _ _ []) (some 57) (vs 7)) (some 56) (vs 6))) _) _);obtain⟨A',c',hv6,hpe⟩:=hS;simp only[frm,h7,hv6];have HS1:=lh hpe;have c0:w1.cell? ⟨b,o,none⟩=some (.slice A i c):=by rw[hpe.pl.cell,← H0.o.2.2.2];simp
     have f0:w1.frozen? ⟨b,o,none⟩=false:=hpe.pl.free o;clear hvs hpe hv6 h7;go_simp;have h9:=HS1.o.store (V':=.slice A' (i+1) c') (qa0 ndC) H0.o.2.2.1 HW.o;rw[H0.o.2.2.2] at h9;exact qa7 (T:=fun _=>fun w1=>∃ A' c',PE E N t b pre post (qa6 ndC) 136 3 w (.r r2) (.slice A' (i+1) c') (.slice A' (i+1) c') (i+1) (xs++[iv x'.peer,uv x'.number,iv x'.stamp]) (lr++[x']) w1) ⟨A',c',h9⟩
   ·intro vs w5 hS hvs;replace hS:(fun w1=>∃ A' c',PE E N t b pre post (qa6 ndC) 136 3 w (.r r2) (.slice A' (i+1) c') (.slice A' (i+1) c') (i+1) (xs++[iv x'.peer,uv x'.number,iv x'.stamp]) (lr++[x']) w1) w5:=hS;change wpList _ _ _ [] (Act.put (Act.put (Act.put (Act.put (Act.put (Act.put (Act.put (Act.put (Act.put (frm _ _ _ []) none (vs 8)) (some 57) (vs 7)) (some 56) (vs 6)) (some 55) (vs 5)) (some 54) (vs 4)) (some 53) (vs 3)) (some 52) (vs 2)) (some 51) (vs 1)) (some 50) (vs 0)) _;simp only[frm];clear hvs;generalize vs 0=z0;generalize vs 1=z1;generalize vs 2=z2;generalize vs 3=z3;generalize vs 4=z4;generalize vs 5=z5;generalize vs 6=z6;generalize vs 7=z7;generalize vs 8=z8;obtain⟨A',c',hpe⟩:=hS;have HP5:=lh hpe;clear hpe
    go_wp2_with fail
    go_roundw
    case rel =>
     have e1:rep qe9 r1 (i+1)=(lr++[x'],r2):=by
      have:rep qe9 r1 (i+1)=((rep qe9 r1 i).1++[(qe9 (rep qe9 r1 i).2).1],(qe9 (rep qe9 r1 i).2).2):=rfl;rw[this,← HX.o.2.1,← HX.o.1,← HLR.o]
     exact⟨i+1,A',c',_,by go_num,hlt,by rw[e1];exact HP5.o⟩
    case measure=>simp[intOf];omega
  ·have hin:i=n:=by omega
   rw[hin] at hpe;clear hpe;have hpe:=HP.o;rw[hin] at hpe;have HE:=lh hpe;clear hpe hin HP
   go_wp2_with fail
   go_end0
   refine⟨rfl,HE.o.fm,⟨A,c,?_,?_⟩,?_⟩
   ·unfold LsR;rw[if_neg (by simp),qh8];exact⟨xs,qo0 HE.o.row (Nat.zero_le _),HE.o.els⟩
   ·unfold Hd;rw[if_neg (by simp),qh8];exact⟨HE.o.pl,HW.o.n1,HW.o.n2,HW.o.n3⟩
   ·unfold Fr;rw[qe5];exact HE.o.kp
theorem lsNd_any (hF:Fm E N w s) (hL:LsR (qa6 ndC) 136 3 s.md N w A c l) (hH:Hd E N t b pre post s.md w [.slice A l.length c]) (ho:pre.length=o) (hz:s.md=false→A=none∧c=0∧l=[]) (hx:∀ x∈l,ndP x) (hf:s.fit (qc6 qd4 l).length):Calls Tryz.prog 120 #[pq E.gf 0,pq b o,.func (.func 121) #[pq E.gf 0] #[]] w (LsP E N t b pre post (stp (qc6 qd4) (Rd.list 1024 qe9) s l).1 s.md (qa6 ndC) 136 3 (stp (qc6 qd4) (Rd.list 1024 qe9) s l).2 w):=by
 cases s with
 | w l0=>exact lsNd_w hF hL hH ho hx hf
 | r rd =>
  obtain⟨rfl,rfl,rfl⟩:=hz rfl;exact lsNd_r hF hH ho
end
end
section
open Go.RowKit
attribute [local go_sem] Oper.semAt_some
section
variable {E:Env} {N:Nat→Prop} {t:TypeId} {b o c:Nat} {A:Option Addr} {pre post:List Value} {w:World} {s:Fs} {l:List Rf}
theorem refs_any (hF:Fm E N w s) (hL:LsR (qa6 rfC) 26 8 s.md N w A c l) (hH:Hd E N t b pre post s.md w [.slice A l.length c]) (ho:pre.length=o) (hz:s.md=false→A=none∧c=0∧l=[]) (hx:∀ x∈l,rfP x) (hf:s.fit (qc6 qc0 l).length):Calls Tryz.prog 114 #[pq E.gf 0,pq b o] w (LsP E N t b pre post (stp (qc6 qc0) (Rd.list 1024 qd3) s l).1 s.md (qa6 rfC) 26 8 (stp (qc6 qc0) (Rd.list 1024 qd3) s l).2 w):=by
 have cM:=lsRf_any hF hL hH ho hz hx hf
 obtain⟨T,hT⟩:∃ T,T=LsP E N t b pre post (stp (qc6 qc0) (Rd.list 1024 qd3) s l).1 s.md (qa6 rfC) 26 8 (stp (qc6 qc0) (Rd.list 1024 qd3) s l).2 w:=⟨_,rfl⟩
 have hT1:∀ e w',T e w'→e=.returned (.tuple #[]):=fun e w' h=>by rw[hT] at h;exact h.1
 rw[← hT] at cM ⊢;have HT:=lh hT1
 obtain⟨gf,hgf⟩:∃ gf,gf=E.gf:=⟨_,rfl⟩
 rw[← hgf] at cM ⊢;clear hF hL hH ho hz hx hf hT hT1 hgf
 go_enter Tryz.func114,Tryz.ntmps114
 go_wp2_with fail
 refine cM.mono ?_;intro e w' h;obtain rfl:=HT.o e w' h;have H:=lh h;clear cM h
 go_wp2_with fail
 go_end0
 exact H.o
end
def LtR:Rel Lt:=fun m N w x r=>∃ A c,r=[iv x.idm,iv x.ids,.string x.meth,.slice A x.args.length c]∧LsR (qa6 rfC) 26 8 m N w A c x.args
theorem ltR_rk:RK LtR fun t=>t=26 :=
 ⟨fun⟨A,c,h1,h2⟩ hk=>⟨A,c,h1,h2.wr (qa0 rfC) hk⟩,fun⟨A,c,h1,h2⟩ hk hS=>⟨A,c,h1,h2.rd (qa0 rfC) hk fun k h=>let ⟨t,cs,a,b⟩:=hS k h;⟨t,cs,a,b,id⟩⟩⟩
def waC (x:Wa):List Value:=[iv x.idm,iv x.ids,.string x.meth,iv x.key,iv x.tgt.kind,iv x.tgt.int,iv x.tgt.owner,uv x.tgt.number,iv x.tgt.idm,iv x.tgt.ids,iv x.tgt.cls,.bool x.tgt.weak]
theorem stp_letter {s s0_ s1_ s2_:Fs} {x:Lt} {y0_:Int × Int} {y1_:ByteArray} {y2_:List Rf} (h0:(s0_,y0_)=stp qe3 qu2 s (x.idm,x.ids)) (h1:(s1_,y1_)=stp qj9 (Rd.text 4096) s0_ x.meth) (h2:(s2_,y2_)=stp (qc6 qc0) (Rd.list 1024 qd3) s1_ x.args):stp qc8 qf2 s x=(s2_,(⟨y0_.1,y0_.2,y1_,y2_⟩:Lt)):=by
 cases s with
 | w l =>
  obtain⟨rfl,rfl⟩:=Prod.mk.inj h0;obtain⟨rfl,rfl⟩:=Prod.mk.inj h1;obtain⟨rfl,rfl⟩:=Prod.mk.inj h2
  simp[stp,qc8,qe3,List.append_assoc]
 | r rd =>
  obtain⟨rfl,rfl⟩:=Prod.mk.inj h0;obtain⟨rfl,rfl⟩:=Prod.mk.inj h1;obtain⟨rfl,rfl⟩:=Prod.mk.inj h2
  rfl
section
variable {E:Env} {N:Nat→Prop} {t:TypeId} {b o:Nat} {pre post r:List Value} {w:World} {s:Fs} {x:Lt}
theorem qp4 (hF:Fm E N w s) (hR:LtR s.md N w x r) (hH:Hd E N t b pre post s.md w r) (ho:pre.length=o) (hz:s.md=false→r=[iv 0,iv 0,.string ⟨#[]⟩,sn]∧x=Lt.zero) (ht0:t≠26) (hx:ltP x) (hf:s.fit (qc8 x).length):Calls Tryz.prog 53 #[pq E.gf 0,pq b o] w (CpP E N t b pre post (stp qc8 qf2 s x).1 s.md LtR (stp qc8 qf2 s x).2 w):=by
 obtain⟨A_,c_,rfl,hl_args⟩:=hR
 obtain⟨gf,hgf⟩:∃ gf,gf=E.gf:=⟨_,rfl⟩
 obtain⟨m,hm⟩:∃ m,m=s.md:=⟨_,rfl⟩
 obtain⟨⟨s0_,y0_⟩,hq0⟩:∃ p,p=stp qe3 qu2 s (x.idm,x.ids):=⟨_,rfl⟩
 obtain⟨⟨s1_,y1_⟩,hq1⟩:∃ p,p=stp qj9 (Rd.text 4096) s0_ x.meth:=⟨_,rfl⟩
 obtain⟨⟨s2_,y2_⟩,hq2⟩:∃ p,p=stp (qc6 qc0) (Rd.list 1024 qd3) s1_ x.args:=⟨_,rfl⟩
 rw[stp_letter hq0 hq1 hq2];have hm0:s.md=m:=hm.symm;have hm1:=qb2 hq0 hm0;have hm2:=qb2 hq1 hm1;have hm3:=qb2 hq2 hm2;have hf0:s.fit ((qe3 (x.idm,x.ids)).length+((qj9 x.meth).length+(((qc6 qc0) x.args).length+(0)))):=hf.mono (by unfold qc8;(try unfold qe3);simp only[List.length_append];omega);have hf1:s0_.fit ((qj9 x.meth).length+(((qc6 qc0) x.args).length+(0))):=qb0 hq0 hf0;have hf2:s1_.fit (((qc6 qc0) x.args).length+(0)):=qb0 hq1 hf1;have hf3:s2_.fit (0):=qb0 hq2 hf2
 have HZ_args:Hid (s.md=false→A_=none∧c_=0∧x.args=[]):=lh fun h=>by
  obtain⟨h1,h2⟩:=hz h;subst h2;simp only[List.cons.injEq,Value.slice.injEq] at h1
  simp[h1,Lt.zero]
 have HM0:=lh hm0;have HFT0:=lh hf0;have HM1:=lh hm1;have HFT1:=lh hf1;have HM2:=lh hm2;have HFT2:=lh hf2;have HM3:=lh hm3;have HFT3:=lh hf3;have HQ0:=lh hq0;have HQ1:=lh hq1;have HQ2:=lh hq2;have HX:=lh hx;have HO:=lh ho;have HGF:=lh hgf;have HT:=lh ht0;rw[← hgf,← hm];rw[← hm] at hH hl_args;have HBL:Hid (b < w.heap.size):=lh (hH.lt (by simp));have HF:=lh hF;have HH:=lh hH;have HL_args:=lh hl_args;clear hgf hm hF hH ho hx hf hz hl_args ht0 hq0 hq1 hq2 hm0 hf0 hm1 hf1 hm2 hf2 hm3 hf3
 go_enter Tryz.func53,Tryz.ntmps53
 have cM0:=id_any (x:=(x.idm,x.ids)) (pre:=pre++[]) (post:=[.string x.meth,.slice A_ x.args.length c_]++post) (o:=o+0) HF.o (show Hd E N t b (pre++[]) ([.string x.meth,.slice A_ x.args.length c_]++post) s.md w [iv x.idm,iv x.ids] by rw[HM0.o];exact Hd.sub (r1:=[]) (r2:=[iv x.idm,iv x.ids]) (r3:=[.string x.meth,.slice A_ x.args.length c_]) HH.o) (by rw[List.length_append,HO.o];rfl) (⟨HX.o.1,HX.o.2.1⟩) (HFT0.o.mono (by omega));rw[← HQ0.o,HM0.o,← HGF.o] at cM0
 try dsimp only at cM0
 go_wp2_with fail
 refine cM0.mono ?_;rintro e u0_ ⟨rfl,hF5,hH5,hfr5⟩;have hHH:Hd E N t b pre post m u0_ [iv y0_.1,iv y0_.2,.string x.meth,.slice A_ x.args.length c_]:=Hd.back (r1:=[]) (r2:=[iv x.idm,iv x.ids]) (r3:=[.string x.meth,.slice A_ x.args.length c_]) (r2':=[iv y0_.1,iv y0_.2]) HH.o hfr5 rfl hH5;have HL0_args:=lh (LsR.fr (qa0 rfC) HL_args.o HF.o HM0.o HH.o hfr5 HT.o id (by decide) (by decide));have HF0_:=lh hF5;have HH0_:=lh hHH;have HFR0_:=lh hfr5;clear cM0 hF5 hH5 hfr5 hHH;have cM1:=Txt_any (x:=x.meth) (pre:=pre++[iv y0_.1,iv y0_.2]) (post:=[.slice A_ x.args.length c_]++post) (o:=o+2) HF0_.o (show Hd E N t b (pre++[iv y0_.1,iv y0_.2]) ([.slice A_ x.args.length c_]++post) s0_.md u0_ [.string x.meth] by rw[HM1.o];exact Hd.sub (r1:=[iv y0_.1,iv y0_.2]) (r2:=[.string x.meth]) (r3:=[.slice A_ x.args.length c_]) HH0_.o) (by rw[List.length_append,HO.o];rfl) (trivial) (HFT1.o.mono (by omega));rw[← HQ1.o,HM1.o,← HGF.o] at cM1
 try dsimp only at cM1
 go_wp2_with fail
 refine cM1.mono ?_;rintro e u1_ ⟨rfl,hF5,hH5,hfr5⟩;have hHH:Hd E N t b pre post m u1_ [iv y0_.1,iv y0_.2,.string y1_,.slice A_ x.args.length c_]:=Hd.back (r1:=[iv y0_.1,iv y0_.2]) (r2:=[.string x.meth]) (r3:=[.slice A_ x.args.length c_]) (r2':=[.string y1_]) HH0_.o hfr5 rfl hH5;have HL1_args:=lh (LsR.fr (qa0 rfC) HL0_args.o HF0_.o HM1.o HH0_.o hfr5 HT.o id (by decide) (by decide));have HF1_:=lh hF5;have HH1_:=lh hHH;have HFR1_:=lh (HFR0_.o.trans hfr5);clear cM1 hF5 hH5 hfr5 hHH;have cM2:=refs_any (l:=x.args) (A:=A_) (c:=c_) (pre:=pre++[iv y0_.1,iv y0_.2,.string y1_]) (post:=[]++post) (o:=o+3) HF1_.o (show LsR (qa6 rfC) 26 8 s1_.md N u1_ A_ c_ x.args by rw[HM2.o];exact HL1_args.o) (show Hd E N t b (pre++[iv y0_.1,iv y0_.2,.string y1_]) ([]++post) s1_.md u1_ [.slice A_ x.args.length c_] by rw[HM2.o];exact Hd.sub (r1:=[iv y0_.1,iv y0_.2,.string y1_]) (r2:=[.slice A_ x.args.length c_]) (r3:=[]) HH1_.o) (by rw[List.length_append,HO.o];rfl) (fun h=>HZ_args.o (by rw[HM0.o];rw[HM2.o] at h;exact h))  (HX.o.2.2.2.2) (HFT2.o.mono (by omega));rw[← HQ2.o,HM2.o,← HGF.o] at cM2
 try dsimp only at cM2
 go_wp2_with fail
 refine cM2.mono ?_;rintro e u2_ ⟨rfl,hF5,⟨A2_,c2_,hl5,hH5⟩,hfr5⟩;have hHH:Hd E N t b pre post m u2_ [iv y0_.1,iv y0_.2,.string y1_,.slice A2_ y2_.length c2_]:=Hd.back (r1:=[iv y0_.1,iv y0_.2,.string y1_]) (r2:=[.slice A_ x.args.length c_]) (r3:=[]) (r2':=[.slice A2_ y2_.length c2_]) HH1_.o hfr5 rfl hH5;have HL2_args:=lh hl5;have HF2_:=lh hF5;have HH2_:=lh hHH;have HFR2_:=lh (HFR1_.o.trans hfr5);clear cM2 hF5 hH5 hfr5 hHH hl5
 go_wp2_with fail
 go_end0
 exact⟨rfl,HF2_.o,⟨_,⟨_,_,rfl,HL2_args.o⟩,HH2_.o⟩,HFR2_.o⟩
end
theorem stp_watch {s s0_ s1_ s2_ s3_:Fs} {x:Wa} {y0_:Int × Int} {y1_:ByteArray} {y2_:Int} {y3_:Rf} (h0:(s0_,y0_)=stp qe3 qu2 s (x.idm,x.ids)) (h1:(s1_,y1_)=stp qj9 (Rd.text 4096) s0_ x.meth) (h2:(s2_,y2_)=stp qb7 Rd.i s1_ x.key) (h3:(s3_,y3_)=stp qc0 qd3 s2_ x.tgt):stp qe1 qf8 s x=(s3_,(⟨y0_.1,y0_.2,y1_,y2_,y3_⟩:Wa)):=by
 cases s with
 | w l =>
  obtain⟨rfl,rfl⟩:=Prod.mk.inj h0;obtain⟨rfl,rfl⟩:=Prod.mk.inj h1;obtain⟨rfl,rfl⟩:=Prod.mk.inj h2;obtain⟨rfl,rfl⟩:=Prod.mk.inj h3
  simp[stp,qe1,qe3,List.append_assoc]
 | r rd =>
  obtain⟨rfl,rfl⟩:=Prod.mk.inj h0;obtain⟨rfl,rfl⟩:=Prod.mk.inj h1;obtain⟨rfl,rfl⟩:=Prod.mk.inj h2;obtain⟨rfl,rfl⟩:=Prod.mk.inj h3
  rfl
section
variable {E:Env} {N:Nat→Prop} {t:TypeId} {b o:Nat} {pre post:List Value} {w:World} {s:Fs} {x:Wa}
theorem watch_any (hF:Fm E N w s) (hH:Hd E N t b pre post s.md w [iv x.idm,iv x.ids,.string x.meth,iv x.key,iv x.tgt.kind,iv x.tgt.int,iv x.tgt.owner,uv x.tgt.number,iv x.tgt.idm,iv x.tgt.ids,iv x.tgt.cls,.bool x.tgt.weak]) (ho:pre.length=o) (hx:waP x) (hf:s.fit (qe1 x).length):Calls Tryz.prog 117 #[pq E.gf 0,pq b o] w (StP E N t b pre post (stp qe1 qf8 s x).1 s.md ((fun x:Wa=>([iv x.idm,iv x.ids,.string x.meth,iv x.key,iv x.tgt.kind,iv x.tgt.int,iv x.tgt.owner,uv x.tgt.number,iv x.tgt.idm,iv x.tgt.ids,iv x.tgt.cls,.bool x.tgt.weak]:List Value)) (stp qe1 qf8 s x).2) w):=by
 obtain⟨gf,hgf⟩:∃ gf,gf=E.gf:=⟨_,rfl⟩
 obtain⟨m,hm⟩:∃ m,m=s.md:=⟨_,rfl⟩
 obtain⟨⟨s0_,y0_⟩,hq0⟩:∃ p,p=stp qe3 qu2 s (x.idm,x.ids):=⟨_,rfl⟩
 obtain⟨⟨s1_,y1_⟩,hq1⟩:∃ p,p=stp qj9 (Rd.text 4096) s0_ x.meth:=⟨_,rfl⟩
 obtain⟨⟨s2_,y2_⟩,hq2⟩:∃ p,p=stp qb7 Rd.i s1_ x.key:=⟨_,rfl⟩
 obtain⟨⟨s3_,y3_⟩,hq3⟩:∃ p,p=stp qc0 qd3 s2_ x.tgt:=⟨_,rfl⟩
 rw[stp_watch hq0 hq1 hq2 hq3];have hm0:s.md=m:=hm.symm;have hm1:=qb2 hq0 hm0;have hm2:=qb2 hq1 hm1;have hm3:=qb2 hq2 hm2;have hm4:=qb2 hq3 hm3;have hf0:s.fit ((qe3 (x.idm,x.ids)).length+((qj9 x.meth).length+((qb7 x.key).length+((qc0 x.tgt).length+(0))))):=hf.mono (by unfold qe1;(try unfold qe3);simp only[List.length_append];omega);have hf1:s0_.fit ((qj9 x.meth).length+((qb7 x.key).length+((qc0 x.tgt).length+(0)))):=qb0 hq0 hf0;have hf2:s1_.fit ((qb7 x.key).length+((qc0 x.tgt).length+(0))):=qb0 hq1 hf1;have hf3:s2_.fit ((qc0 x.tgt).length+(0)):=qb0 hq2 hf2;have hf4:s3_.fit (0):=qb0 hq3 hf3;have HM0:=lh hm0;have HFT0:=lh hf0;have HM1:=lh hm1;have HFT1:=lh hf1;have HM2:=lh hm2;have HFT2:=lh hf2;have HM3:=lh hm3;have HFT3:=lh hf3;have HM4:=lh hm4;have HFT4:=lh hf4;have HQ0:=lh hq0;have HQ1:=lh hq1;have HQ2:=lh hq2;have HQ3:=lh hq3;have HX:=lh hx;have HO:=lh ho;have HGF:=lh hgf;rw[← hgf,← hm];rw[← hm] at hH;have HBL:Hid (b < w.heap.size):=lh (hH.lt (by simp));have HF:=lh hF;have HH:=lh hH;clear hgf hm hF hH ho hx hf hq0 hq1 hq2 hq3 hm0 hf0 hm1 hf1 hm2 hf2 hm3 hf3 hm4 hf4
 go_enter Tryz.func117,Tryz.ntmps117
 have cM0:=id_any (x:=(x.idm,x.ids)) (pre:=pre++[]) (post:=[.string x.meth,iv x.key,iv x.tgt.kind,iv x.tgt.int,iv x.tgt.owner,uv x.tgt.number,iv x.tgt.idm,iv x.tgt.ids,iv x.tgt.cls,.bool x.tgt.weak]++post) (o:=o+0) HF.o (show Hd E N t b (pre++[]) ([.string x.meth,iv x.key,iv x.tgt.kind,iv x.tgt.int,iv x.tgt.owner,uv x.tgt.number,iv x.tgt.idm,iv x.tgt.ids,iv x.tgt.cls,.bool x.tgt.weak]++post) s.md w [iv x.idm,iv x.ids] by rw[HM0.o];exact Hd.sub (r1:=[]) (r2:=[iv x.idm,iv x.ids]) (r3:=[.string x.meth,iv x.key,iv x.tgt.kind,iv x.tgt.int,iv x.tgt.owner,uv x.tgt.number,iv x.tgt.idm,iv x.tgt.ids,iv x.tgt.cls,.bool x.tgt.weak]) HH.o) (by rw[List.length_append,HO.o];rfl) (⟨HX.o.1,HX.o.2.1⟩) (HFT0.o.mono (by omega));rw[← HQ0.o,HM0.o,← HGF.o] at cM0
 try dsimp only at cM0
 go_wp2_with fail
 refine cM0.mono ?_;rintro e u0_ ⟨rfl,hF5,hH5,hfr5⟩;have hHH:Hd E N t b pre post m u0_ [iv y0_.1,iv y0_.2,.string x.meth,iv x.key,iv x.tgt.kind,iv x.tgt.int,iv x.tgt.owner,uv x.tgt.number,iv x.tgt.idm,iv x.tgt.ids,iv x.tgt.cls,.bool x.tgt.weak]:=Hd.back (r1:=[]) (r2:=[iv x.idm,iv x.ids]) (r3:=[.string x.meth,iv x.key,iv x.tgt.kind,iv x.tgt.int,iv x.tgt.owner,uv x.tgt.number,iv x.tgt.idm,iv x.tgt.ids,iv x.tgt.cls,.bool x.tgt.weak]) (r2':=[iv y0_.1,iv y0_.2]) HH.o hfr5 rfl hH5;have HF0_:=lh hF5;have HH0_:=lh hHH;have HFR0_:=lh hfr5;clear cM0 hF5 hH5 hfr5 hHH;have cM1:=Txt_any (x:=x.meth) (pre:=pre++[iv y0_.1,iv y0_.2]) (post:=[iv x.key,iv x.tgt.kind,iv x.tgt.int,iv x.tgt.owner,uv x.tgt.number,iv x.tgt.idm,iv x.tgt.ids,iv x.tgt.cls,.bool x.tgt.weak]++post) (o:=o+2) HF0_.o (show Hd E N t b (pre++[iv y0_.1,iv y0_.2]) ([iv x.key,iv x.tgt.kind,iv x.tgt.int,iv x.tgt.owner,uv x.tgt.number,iv x.tgt.idm,iv x.tgt.ids,iv x.tgt.cls,.bool x.tgt.weak]++post) s0_.md u0_ [.string x.meth] by rw[HM1.o];exact Hd.sub (r1:=[iv y0_.1,iv y0_.2]) (r2:=[.string x.meth]) (r3:=[iv x.key,iv x.tgt.kind,iv x.tgt.int,iv x.tgt.owner,uv x.tgt.number,iv x.tgt.idm,iv x.tgt.ids,iv x.tgt.cls,.bool x.tgt.weak]) HH0_.o) (by rw[List.length_append,HO.o];rfl) (trivial) (HFT1.o.mono (by omega));rw[← HQ1.o,HM1.o,← HGF.o] at cM1
 try dsimp only at cM1
 go_wp2_with fail
 refine cM1.mono ?_;rintro e u1_ ⟨rfl,hF5,hH5,hfr5⟩;have hHH:Hd E N t b pre post m u1_ [iv y0_.1,iv y0_.2,.string y1_,iv x.key,iv x.tgt.kind,iv x.tgt.int,iv x.tgt.owner,uv x.tgt.number,iv x.tgt.idm,iv x.tgt.ids,iv x.tgt.cls,.bool x.tgt.weak]:=Hd.back (r1:=[iv y0_.1,iv y0_.2]) (r2:=[.string x.meth]) (r3:=[iv x.key,iv x.tgt.kind,iv x.tgt.int,iv x.tgt.owner,uv x.tgt.number,iv x.tgt.idm,iv x.tgt.ids,iv x.tgt.cls,.bool x.tgt.weak]) (r2':=[.string y1_]) HH0_.o hfr5 rfl hH5;have HF1_:=lh hF5;have HH1_:=lh hHH;have HFR1_:=lh (HFR0_.o.trans hfr5);clear cM1 hF5 hH5 hfr5 hHH;have cM2:=Itg_any (x:=x.key) (pre:=pre++[iv y0_.1,iv y0_.2,.string y1_]) (post:=[iv x.tgt.kind,iv x.tgt.int,iv x.tgt.owner,uv x.tgt.number,iv x.tgt.idm,iv x.tgt.ids,iv x.tgt.cls,.bool x.tgt.weak]++post) (o:=o+3) HF1_.o (show Hd E N t b (pre++[iv y0_.1,iv y0_.2,.string y1_]) ([iv x.tgt.kind,iv x.tgt.int,iv x.tgt.owner,uv x.tgt.number,iv x.tgt.idm,iv x.tgt.ids,iv x.tgt.cls,.bool x.tgt.weak]++post) s1_.md u1_ [iv x.key] by rw[HM2.o];exact Hd.sub (r1:=[iv y0_.1,iv y0_.2,.string y1_]) (r2:=[iv x.key]) (r3:=[iv x.tgt.kind,iv x.tgt.int,iv x.tgt.owner,uv x.tgt.number,iv x.tgt.idm,iv x.tgt.ids,iv x.tgt.cls,.bool x.tgt.weak]) HH1_.o) (by rw[List.length_append,HO.o];rfl) (HX.o.2.2.2.1) (HFT2.o.mono (by omega));rw[← HQ2.o,HM2.o,← HGF.o] at cM2
 try dsimp only at cM2
 go_wp2_with fail
 refine cM2.mono ?_;rintro e u2_ ⟨rfl,hF5,hH5,hfr5⟩;have hHH:Hd E N t b pre post m u2_ [iv y0_.1,iv y0_.2,.string y1_,iv y2_,iv x.tgt.kind,iv x.tgt.int,iv x.tgt.owner,uv x.tgt.number,iv x.tgt.idm,iv x.tgt.ids,iv x.tgt.cls,.bool x.tgt.weak]:=Hd.back (r1:=[iv y0_.1,iv y0_.2,.string y1_]) (r2:=[iv x.key]) (r3:=[iv x.tgt.kind,iv x.tgt.int,iv x.tgt.owner,uv x.tgt.number,iv x.tgt.idm,iv x.tgt.ids,iv x.tgt.cls,.bool x.tgt.weak]) (r2':=[iv y2_]) HH1_.o hfr5 rfl hH5;have HF2_:=lh hF5;have HH2_:=lh hHH;have HFR2_:=lh (HFR1_.o.trans hfr5);clear cM2 hF5 hH5 hfr5 hHH;have cM3:=ref_any (x:=x.tgt) (pre:=pre++[iv y0_.1,iv y0_.2,.string y1_,iv y2_]) (post:=[]++post) (o:=o+4) HF2_.o (show Hd E N t b (pre++[iv y0_.1,iv y0_.2,.string y1_,iv y2_]) ([]++post) s2_.md u2_ [iv x.tgt.kind,iv x.tgt.int,iv x.tgt.owner,uv x.tgt.number,iv x.tgt.idm,iv x.tgt.ids,iv x.tgt.cls,.bool x.tgt.weak] by rw[HM3.o];exact Hd.sub (r1:=[iv y0_.1,iv y0_.2,.string y1_,iv y2_]) (r2:=[iv x.tgt.kind,iv x.tgt.int,iv x.tgt.owner,uv x.tgt.number,iv x.tgt.idm,iv x.tgt.ids,iv x.tgt.cls,.bool x.tgt.weak]) (r3:=[]) HH2_.o) (by rw[List.length_append,HO.o];rfl) (HX.o.2.2.2.2) (HFT3.o.mono (by omega));rw[← HQ3.o,HM3.o,← HGF.o] at cM3
 try dsimp only at cM3
 go_wp2_with fail
 refine cM3.mono ?_;rintro e u3_ ⟨rfl,hF5,hH5,hfr5⟩;have hHH:Hd E N t b pre post m u3_ [iv y0_.1,iv y0_.2,.string y1_,iv y2_,iv y3_.kind,iv y3_.int,iv y3_.owner,uv y3_.number,iv y3_.idm,iv y3_.ids,iv y3_.cls,.bool y3_.weak]:=Hd.back (r1:=[iv y0_.1,iv y0_.2,.string y1_,iv y2_]) (r2:=[iv x.tgt.kind,iv x.tgt.int,iv x.tgt.owner,uv x.tgt.number,iv x.tgt.idm,iv x.tgt.ids,iv x.tgt.cls,.bool x.tgt.weak]) (r3:=[]) (r2':=[iv y3_.kind,iv y3_.int,iv y3_.owner,uv y3_.number,iv y3_.idm,iv y3_.ids,iv y3_.cls,.bool y3_.weak]) HH2_.o hfr5 rfl hH5;have HF3_:=lh hF5;have HH3_:=lh hHH;have HFR3_:=lh (HFR2_.o.trans hfr5);clear cM3 hF5 hH5 hfr5 hHH
 go_wp2_with fail
 go_end0
 exact⟨rfl,HF3_.o,HH3_.o,HFR3_.o⟩
end
section
variable {E:Env} {N:Nat→Prop} {t:TypeId} {b o:Nat} {pre post r:List Value} {w:World} {s:Fs}
theorem waE_any {x:Wa} (hF:Fm E N w s) (hR:qa6 waC s.md N w x r) (hH:Hd E N t b pre post s.md w r) (ho:pre.length=o) (hx:waP x) (hf:s.fit (qe1 x).length):Calls Tryz.prog 117 #[pq E.gf 0,pq b o] w (CpP E N t b pre post (stp qe1 qf8 s x).1 s.md (qa6 waC) (stp qe1 qf8 s x).2 w):=by
 unfold qa6 at hR;subst hR;exact(watch_any hF hH ho hx hf).mono fun e w' h=>StP.cp h
end
end
end Go.Proofs.YtmbnlccafcfbeaaGreatDoor
