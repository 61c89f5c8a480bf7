/- Parts of the proof: RcL3. -/
import Derived.Test.YtmbnlccafcfbeaaGreatDoorPeA
import Derived.Test.YtmbnlccafcfbeaaGreatDoorPe12
set_option linter.unusedVariables false
set_option linter.unusedSimpArgs false
set_option linter.unusedSectionVars false
set_option maxRecDepth 100000
namespace Go.Proofs.YtmbnlccafcfbeaaGreatDoor
section
open Go.RowKit
attribute [local go_sem] Oper.semAt_some
theorem i_lsRf:(Tryz.prog.info? 26).map (fun i=>(i.zero,i.size,i.bytes))=some (some (.agg #[.int .i64 0,.int .i64 0,.int .i64 0,.int .u64 0,.int .i64 0,.int .i64 0,.int .i64 0,.bool false]),8,64):=by kernel_rfl
section
variable {E:Env} {N:Nat→Prop} {t:TypeId} {b o c:Nat} {A:Option Addr} {pre post:List Value} {w:World} {rd:Rd} {s:Fs} {l:List Rf}
set_option maxHeartbeats 8000000 in
theorem lsRf_r (hF:Fm E N w (.r rd)) (hH:Hd E N t b pre post false w [.slice none 0 0]) (ho:pre.length=o):Calls Tryz.prog 158 #[.pointer (some ⟨E.gf,0,none⟩),.pointer (some ⟨b,o,none⟩),.func (.func 42) #[.pointer (some ⟨E.gf,0,none⟩)] #[]] w (LsP E N t b pre post (.r (rd.list 1024 decRf).2) false (flat rfC) 26 8 (rd.list 1024 decRf).1 w):=by
 have hbt:¬ (fun _=>False) t:=id
 have hB:=hH
 unfold Hd at hB
 rw[if_neg (by simp)] at hB
 have HF:=hF
 obtain⟨hbk,hr,hgg,hbb⟩:=HF
 obtain⟨csr,hcsr⟩:=hr.bkq
 have HW:Hid (PW E b w):=lh ⟨hB.1.lt,hcsr.lt,hbk.lt,hbb,hB.2.1,hB.2.2.1,hB.2.2.2⟩
 have hcl:=Rd.count_len (most:=1024) hr.b8
 have hcm:=Rd.count_le (r:=rd) (most:=1024) (by decide)
 have hld:rd.list 1024 decRf=rep decRf (rd.count 1024).2 (rd.count 1024).1.toNat:=rfl
 rw[hld]
 have cC:=Count_any hr hbb (show(0:Int)≤1024 by decide) (by decide)
 obtain⟨⟨n',r1⟩,hq⟩:∃ p,p=rd.count 1024:=⟨_,rfl⟩
 rw[← hq] at cC hcl hcm ⊢
 dsimp only at cC hcl hcm ⊢
 obtain⟨n,rfl⟩:=Int.eq_ofNat_of_zero_le hcl.1
 rw[Int.toNat_natCast]
 have hn:n≤1024:=by omega
 obtain⟨gf,hgf⟩:∃ gf,gf=E.gf:=⟨_,rfl⟩
 obtain⟨g,hg⟩:∃ g,g=E.g:=⟨_,rfl⟩
 have c1:w.cell? ⟨gf,1,none⟩=some (.pointer (some ⟨g,0,none⟩)):=by rw[hgf,hg];exact hbk.cell 1
 rw[← hgf]
 rw[← hg] at cC
 have HGF:=lh (And.intro hgf hg)
 have H0:=lh (And.intro hF (And.intro hB.1 (And.intro hbt ho)))
 clear hH hF hB hbk hr hgg hbb hcsr hcl hcm hld hq hgf hg hbt ho
 go_enter Tryz.func158,Tryz.ntmps158
 go_wp2_with fail
 refine cC.mono ?_
 rintro e wc ⟨rfl,hrc,hkc⟩
 have hPE:PE E N t b pre post (flat rfC) 26 8 w (.r (rep decRf r1 0).2) (.slice none 0 0) (.slice none 0 0) 0 [] (rep decRf r1 0).1 wc:=by
  have hk:=hkc
  rw[HGF.out.2] at hk hrc
  refine⟨⟨H0.out.1.1.kp hk H0.out.1.2.2.1,hrc,H0.out.1.2.2.1,Nat.lt_of_lt_of_le H0.out.1.2.2.2 hk.size⟩,H0.out.2.1.kp hk HW.out.n2,World.ownsRow_nil _ _ _ _,Els.nil _ _ _,hk.mono fun _ _ h=>.inl h⟩
 have HPE:=lh hPE
 clear cC hrc hkc hPE c1
 go_wp2_with fail
 go_loopw [46] (fun ix wr=>∃ (i:Nat) (A:Option Addr) (c:Nat) (xs:List Value),ix=.int .i64 (i:Int)∧i≤n∧PE E N t b pre post (flat rfC) 26 8 w (.r (rep decRf r1 i).2) (.slice A i c) (.slice A i c) i xs (rep decRf r1 i).1 wr) (fun ix _=>n - (intOf ix).toNat)
 case atStart=>exact⟨0,none,0,[],rfl,Nat.zero_le _,HPE.out⟩
 case round =>
  clear HPE
  obtain⟨i,A,c,xs,rfl,hi,hpe⟩:=hrel
  have HP:=lh hpe
  by_cases hlt:i < n
  ·obtain⟨ri,hri⟩:∃ ri,ri=(rep decRf r1 i).2:=⟨_,rfl⟩
   rw[← hri] at hpe HP
   obtain⟨w1,hw1⟩:∃ w1,w1=wr.alloc (.cells #[.int .i64 0,.int .i64 0,.int .i64 0,.int .u64 0,.int .i64 0,.int .i64 0,.int .i64 0,.bool false] 26):=⟨_,rfl⟩
   obtain⟨xb,hxb⟩:∃ xb,xb=wr.heap.size:=⟨_,rfl⟩
   have hb1:Below wr.heap.size wr w1:=by rw[hw1];exact(Below.refl _ _).alloc (Nat.le_refl _) _
   have hx1:Bk w1 xb 26 #[.int .i64 0,.int .i64 0,.int .i64 0,.int .u64 0,.int .i64 0,.int .i64 0,.int .i64 0,.bool false]:=by rw[hw1,hxb];exact Bk.new _ _ _
   have hwz:=hpe.kp.size
   have hHx:Hd E N 26 xb [] [] false w1 [.int .i64 0,.int .i64 0,.int .i64 0,.int .u64 0,.int .i64 0,.int .i64 0,.int .i64 0,.bool false]:=by
    unfold Hd
    rw[if_neg (by simp)]
    refine⟨hx1,?_⟩
    have:=HW.out
    exact⟨by have:=this.lf;omega,by have:=this.lg;omega,by have:=this.lbb;omega⟩
   have cM:=rfE_any (s:=.r ri) (x:=Rf.zero) (r:=[.int .i64 0,.int .i64 0,.int .i64 0,.int .u64 0,.int .i64 0,.int .i64 0,.int .i64 0,.bool false]) (o:=0) (hpe.fm.below hb1) (rfl) hHx rfl (by refine⟨?_,?_,?_,?_,?_,?_,?_⟩ <;> simp[Rf.zero,I64,P64]) trivial
   have hs:stp encRf decRf (.r ri) Rf.zero=(.r (decRf ri).2,(decRf ri).1):=rfl
   rw[hs] at cM
   dsimp only at cM
   obtain⟨⟨x',r2⟩,hx'⟩:∃ p,p=decRf ri:=⟨_,rfl⟩
   rw[← hx'] at cM
   dsimp only at cM
   rw[← HGF.out.1] at cM
   have HX:=lh (And.intro hx' (And.intro hri (And.intro hb1 (And.intro hx1 hxb))))
   clear hpe hx' hri hb1 hx1 hHx hs hwz
   go_upto_region 10 with fail
   rw[← hw1,← hxb]
   clear hw1 hxb
   go_wp2_with fail
   refine cM.mono ?_
   rintro e w2 ⟨rfl,hF2,⟨rx,hrx,hHx2⟩,hfr2⟩
   have hpd:PD E N t b pre post (flat rfC) 26 8 w (.r r2) (.slice A i c) (.slice A i c) i xs (rep decRf r1 i).1 xb rx x' w2:=by
    have e:=HX.out.2.2.2.2
    have h1:=HX.out.2.2.2.1
    subst e
    exact PE.read (flat_rk rfC) (by decide) (by decide) HW.out HP.out HX.out.2.2.1 (rx:=[.int .i64 0,.int .i64 0,.int .i64 0,.int .u64 0,.int .i64 0,.int .i64 0,.int .i64 0,.bool false]) h1 hF2 hHx2 hrx hfr2
   clear cM hF2 hHx2 hfr2
   obtain rfl:rx=rfC x':=hrx
   unfold rfC at hpd
   have HD:=lh hpd
   clear hpd
   try clear hrx
   obtain⟨i5,hi5,hz0,hz1,hz2⟩:=info_parts i_lsRf
   have HIN:=lh (And.intro hi5 (And.intro hz0 (And.intro hz1 hz2)))
   clear hi5 hz0 hz1 hz2
   obtain⟨lr,hlr⟩:∃ lr,lr=(rep decRf r1 i).1:=⟨_,rfl⟩
   rw[← hlr] at HD
   have HLR:=lh hlr
   clear hlr
   go_wp2_with fail
   refine wp_seq 9 (fun i=>([[],[],[1],[2],[],[4],[3,5],[0],[6,7]]:List (List Nat)).getD i []) [5,6,8] (fun i=>([2,1,1,1,0,0,0,2,0]:List Nat).getD i 0) (fun zz=>([.pointer (some ⟨b,o,none⟩),.pointer (some ⟨b,o,none⟩),.pointer (some ⟨b,o,none⟩),.slice A i c,.agg #[Value.int .i64 x'.kind,Value.int .i64 x'.int,Value.int .i64 x'.owner,Value.int .u64 x'.number,Value.int .i64 x'.idm,Value.int .i64 x'.ids,Value.int .i64 x'.cls,Value.bool x'.weak],.bool false,.bool false,.pointer (some ⟨b,o,none⟩),.bool false]:List Value).getD zz (.bool false)) (PqS (PD E N t b pre post (flat rfC) 26 8 w (.r r2) (.slice A i c) (.slice A i c) i xs lr xb [Value.int .i64 x'.kind,Value.int .i64 x'.int,Value.int .i64 x'.owner,Value.int .u64 x'.number,Value.int .i64 x'.idm,Value.int .i64 x'.ids,Value.int .i64 x'.cls,Value.bool x'.weak] x') (fun v w1=>PD E N t b pre post (flat rfC) 26 8 w (.r r2) (.slice A i c) (.slice A i c) i xs lr xb [Value.int .i64 x'.kind,Value.int .i64 x'.int,Value.int .i64 x'.owner,Value.int .u64 x'.number,Value.int .i64 x'.idm,Value.int .i64 x'.ids,Value.int .i64 x'.cls,Value.bool x'.weak] x' w1∧∃ kk,v=.slice (some ⟨kk,0,none⟩) 1 1∧Sl w1 8 (some ⟨kk,0,none⟩) 1 [Value.int .i64 x'.kind,Value.int .i64 x'.int,Value.int .i64 x'.owner,Value.int .u64 x'.number,Value.int .i64 x'.idm,Value.int .i64 x'.ids,Value.int .i64 x'.cls,Value.bool x'.weak]) (fun v w1=>∃ A' c',v=.slice A' (i+1) c'∧PE E N t b pre post (flat rfC) 26 8 w (.r r2) (.slice A i c) (.slice A' (i+1) c') (i+1) (xs++[Value.int .i64 x'.kind,Value.int .i64 x'.int,Value.int .i64 x'.owner,Value.int .u64 x'.number,Value.int .i64 x'.idm,Value.int .i64 x'.ids,Value.int .i64 x'.cls,Value.bool x'.weak]) (lr++[x']) w1) (fun w1=>∃ A' c',PE E N t b pre post (flat rfC) 26 8 w (.r r2) (.slice A' (i+1) c') (.slice A' (i+1) c') (i+1) (xs++[Value.int .i64 x'.kind,Value.int .i64 x'.int,Value.int .i64 x'.owner,Value.int .u64 x'.number,Value.int .i64 x'.idm,Value.int .i64 x'.ids,Value.int .i64 x'.cls,Value.bool x'.weak]) (lr++[x']) w1)) rfl (by kernel_rfl) (by rfl) (by kernel_rfl) ?_ ?_ ?_ ?_
   ·exact HD.out.drew (flat_rk rfC)
   ·intro zi hzi hn zo ho k vs w1 hk hlow hS hvs
    rcases (show zi=0 ∨ zi=1 ∨ zi=2 ∨ zi=3 ∨ zi=4 ∨ zi=5 ∨ zi=6 ∨ zi=7 ∨ zi=8 by omega) with rfl | rfl | rfl | rfl | rfl | rfl | rfl | rfl | rfl <;> cases ho
    ·clear hS hvs hlow hk hn
     change Sem.run _ (execOp (Act.eval (frm _ _ _ [])) _) _=_
     simp only[frm]
     go_simp
    ·clear hS hvs hlow hk hn
     change Sem.run _ (execOp (Act.eval (frm _ _ _ [])) _) _=_
     simp only[frm]
     go_simp
    ·have h1:vs 1=.pointer (some ⟨b,o,none⟩):=hvs 1 (by decide) (by decide)
     clear hS hvs hlow hk hn
     change Sem.run _ (execOp (Act.eval (Act.put (frm _ _ _ []) (some 51) (vs 1))) _) _=_
     simp only[frm,h1]
     go_simp
    ·have h2:vs 2=.pointer (some ⟨b,o,none⟩):=hvs 2 (by decide) (by decide)
     replace hk:k≤1:=hk
     have hpl:Bk w1 b t (pre++[Value.slice A i c]++post).toArray:=by
      rcases (show k=0 ∨ k=1 by omega) with rfl | rfl
      ·exact(show PD E N t b pre post (flat rfC) 26 8 w (.r r2) (.slice A i c) (.slice A i c) i xs lr xb [Value.int .i64 x'.kind,Value.int .i64 x'.int,Value.int .i64 x'.owner,Value.int .u64 x'.number,Value.int .i64 x'.idm,Value.int .i64 x'.ids,Value.int .i64 x'.cls,Value.bool x'.weak] x' w1 from hS).pl
      ·exact(show(fun v w1=>PD E N t b pre post (flat rfC) 26 8 w (.r r2) (.slice A i c) (.slice A i c) i xs lr xb [Value.int .i64 x'.kind,Value.int .i64 x'.int,Value.int .i64 x'.owner,Value.int .u64 x'.number,Value.int .i64 x'.idm,Value.int .i64 x'.ids,Value.int .i64 x'.cls,Value.bool x'.weak] x' w1∧∃ kk,v=.slice (some ⟨kk,0,none⟩) 1 1∧Sl w1 8 (some ⟨kk,0,none⟩) 1 [Value.int .i64 x'.kind,Value.int .i64 x'.int,Value.int .i64 x'.owner,Value.int .u64 x'.number,Value.int .i64 x'.idm,Value.int .i64 x'.ids,Value.int .i64 x'.cls,Value.bool x'.weak]) (vs 5) w1 from hS).1.pl
     have c0:w1.cell? ⟨b,o,none⟩=some (.slice A i c):=by rw[hpl.cell,← H0.out.2.2.2];simp
     clear hpl
     clear hS hvs hlow hk hn
     change Sem.run _ (execOp (Act.eval (Act.put (frm _ _ _ []) (some 52) (vs 2))) _) _=_
     simp only[frm,h2]
     go_simp
    ·replace hk:k≤0:=hk
     obtain rfl:k=0:=by omega
     replace hS:PD E N t b pre post (flat rfC) 26 8 w (.r r2) (.slice A i c) (.slice A i c) i xs lr xb [Value.int .i64 x'.kind,Value.int .i64 x'.int,Value.int .i64 x'.owner,Value.int .u64 x'.number,Value.int .i64 x'.idm,Value.int .i64 x'.ids,Value.int .i64 x'.cls,Value.bool x'.weak] x' w1:=hS
     have k0:w1.cell? ⟨xb,0,none⟩=some (Value.int .i64 x'.kind):=hS.bx.cell 0
     have k1:w1.cell? ⟨xb,1,none⟩=some (Value.int .i64 x'.int):=hS.bx.cell 1
     have k2:w1.cell? ⟨xb,2,none⟩=some (Value.int .i64 x'.owner):=hS.bx.cell 2
     have k3:w1.cell? ⟨xb,3,none⟩=some (Value.int .u64 x'.number):=hS.bx.cell 3
     have k4:w1.cell? ⟨xb,4,none⟩=some (Value.int .i64 x'.idm):=hS.bx.cell 4
     have k5:w1.cell? ⟨xb,5,none⟩=some (Value.int .i64 x'.ids):=hS.bx.cell 5
     have k6:w1.cell? ⟨xb,6,none⟩=some (Value.int .i64 x'.cls):=hS.bx.cell 6
     have k7:w1.cell? ⟨xb,7,none⟩=some (Value.bool x'.weak):=hS.bx.cell 7
     clear hS hvs hlow hk hn
     change Sem.run _ (execOp (Act.eval (frm _ _ _ [])) _) _=_
     simp only[frm]
     go_simp
    ·exact absurd (by decide) hn
    ·exact absurd (by decide) hn
    ·have h0:vs 0=.pointer (some ⟨b,o,none⟩):=hvs 0 (by decide) (by decide)
     clear hS hvs hlow hk hn
     change Sem.run _ (execOp (Act.eval (Act.put (frm _ _ _ []) (some 50) (vs 0))) _) _=_
     simp only[frm,h0]
     go_simp
    ·exact absurd (by decide) hn
   ·intro p hp o ho vs w1 hS hvs
    rcases (show p=0 ∨ p=1 ∨ p=2 by change p < 3 at hp;omega) with rfl | rfl | rfl <;> cases ho
    ·replace hS:PD E N t b pre post (flat rfC) 26 8 w (.r r2) (.slice A i c) (.slice A i c) i xs lr xb [Value.int .i64 x'.kind,Value.int .i64 x'.int,Value.int .i64 x'.owner,Value.int .u64 x'.number,Value.int .i64 x'.idm,Value.int .i64 x'.ids,Value.int .i64 x'.cls,Value.bool x'.weak] x' w1:=hS
     have h4:vs 4=.agg #[Value.int .i64 x'.kind,Value.int .i64 x'.int,Value.int .i64 x'.owner,Value.int .u64 x'.number,Value.int .i64 x'.idm,Value.int .i64 x'.ids,Value.int .i64 x'.cls,Value.bool x'.weak]:=hvs 4 (by decide) (by decide)
     show Made _ (fun v w1=>PD E N t b pre post (flat rfC) 26 8 w (.r r2) (.slice A i c) (.slice A i c) i xs lr xb [Value.int .i64 x'.kind,Value.int .i64 x'.int,Value.int .i64 x'.owner,Value.int .u64 x'.number,Value.int .i64 x'.idm,Value.int .i64 x'.ids,Value.int .i64 x'.cls,Value.bool x'.weak] x' w1∧∃ kk,v=.slice (some ⟨kk,0,none⟩) 1 1∧Sl w1 8 (some ⟨kk,0,none⟩) 1 [Value.int .i64 x'.kind,Value.int .i64 x'.int,Value.int .i64 x'.owner,Value.int .u64 x'.number,Value.int .i64 x'.idm,Value.int .i64 x'.ids,Value.int .i64 x'.cls,Value.bool x'.weak]) _
     change Made _ _ (Sem.run _ (execOp (Act.eval (Act.put (frm _ _ _ []) (some 54) (vs 4))) _) _)
     simp only[frm,h4]
     have HS1:=lh hS
     clear hS hvs h4
     go_simp
     have hb:Below w1.heap.size w1 (w1.alloc (.cells #[Value.int .i64 x'.kind,Value.int .i64 x'.int,Value.int .i64 x'.owner,Value.int .u64 x'.number,Value.int .i64 x'.idm,Value.int .i64 x'.ids,Value.int .i64 x'.cls,Value.bool x'.weak] 26)):=(Below.refl _ _).alloc (Nat.le_refl _) _
     exact made_ok ⟨HS1.out.below (flat_rk rfC) hb,_,rfl,Sl.one (w:=w1) 26 #[Value.int .i64 x'.kind,Value.int .i64 x'.int,Value.int .i64 x'.owner,Value.int .u64 x'.number,Value.int .i64 x'.idm,Value.int .i64 x'.ids,Value.int .i64 x'.cls,Value.bool x'.weak] (by simp)⟩
    ·replace hS:(fun v w1=>PD E N t b pre post (flat rfC) 26 8 w (.r r2) (.slice A i c) (.slice A i c) i xs lr xb [Value.int .i64 x'.kind,Value.int .i64 x'.int,Value.int .i64 x'.owner,Value.int .u64 x'.number,Value.int .i64 x'.idm,Value.int .i64 x'.ids,Value.int .i64 x'.cls,Value.bool x'.weak] x' w1∧∃ kk,v=.slice (some ⟨kk,0,none⟩) 1 1∧Sl w1 8 (some ⟨kk,0,none⟩) 1 [Value.int .i64 x'.kind,Value.int .i64 x'.int,Value.int .i64 x'.owner,Value.int .u64 x'.number,Value.int .i64 x'.idm,Value.int .i64 x'.ids,Value.int .i64 x'.cls,Value.bool x'.weak]) (vs 5) w1:=hS
     have h3:vs 3=.slice A i c:=hvs 3 (by decide) (by decide)
     show Made _ (fun v w1=>∃ A' c',v=.slice A' (i+1) c'∧PE E N t b pre post (flat rfC) 26 8 w (.r r2) (.slice A i c) (.slice A' (i+1) c') (i+1) (xs++[Value.int .i64 x'.kind,Value.int .i64 x'.int,Value.int .i64 x'.owner,Value.int .u64 x'.number,Value.int .i64 x'.idm,Value.int .i64 x'.ids,Value.int .i64 x'.cls,Value.bool x'.weak]) (lr++[x']) w1) _
     change Made _ _ (Sem.run _ (execOp (Act.eval (Act.put (Act.put (frm _ _ _ []) (some 55) (vs 5)) (some 53) (vs 3))) _) _)
     obtain⟨hpd,kk,hv5,hsl⟩:=hS
     simp only[frm,h3,hv5]
     have HS1:=lh hpd
     have HSS:=lh hsl
     have hsz:w.heap.size≤w1.heap.size:=hpd.kp.size
     clear hvs hpd hv5 hsl h3
     refine made_append (.tmp 53) (.tmp 55) 27 rfl Tryz.underlying27 HIN.out.1 HIN.out.2.1 HIN.out.2.2.1 HIN.out.2.2.2 rfl (by decide) rfl HS1.out.row rfl HSS.out (by simp[Value.oneCell']) (by unfold maxLen;omega) (by omega) hsz ?_
     intro v' w' ho' hg' h4'
     obtain⟨A',c',rfl,_⟩:=own_shape ho'
     exact⟨A',c',rfl,HS1.out.grow (flat_rk rfC) (by decide) HW.out rfl hg' ho'⟩
    ·replace hS:(fun v w1=>∃ A' c',v=.slice A' (i+1) c'∧PE E N t b pre post (flat rfC) 26 8 w (.r r2) (.slice A i c) (.slice A' (i+1) c') (i+1) (xs++[Value.int .i64 x'.kind,Value.int .i64 x'.int,Value.int .i64 x'.owner,Value.int .u64 x'.number,Value.int .i64 x'.idm,Value.int .i64 x'.ids,Value.int .i64 x'.cls,Value.bool x'.weak]) (lr++[x']) w1) (vs 6) w1:=hS
     have h7:vs 7=.pointer (some ⟨b,o,none⟩):=hvs 7 (by decide) (by decide)
     show Made _ (fun _=>(fun w1=>∃ A' c',PE E N t b pre post (flat rfC) 26 8 w (.r r2) (.slice A' (i+1) c') (.slice A' (i+1) c') (i+1) (xs++[Value.int .i64 x'.kind,Value.int .i64 x'.int,Value.int .i64 x'.owner,Value.int .u64 x'.number,Value.int .i64 x'.idm,Value.int .i64 x'.ids,Value.int .i64 x'.cls,Value.bool x'.weak]) (lr++[x']) w1)) _
     change Made _ _ (Sem.run _ (execOp (Act.eval (Act.put (Act.put (frm _ _ _ []) (some 57) (vs 7)) (some 56) (vs 6))) _) _)
     obtain⟨A',c',hv6,hpe⟩:=hS
     simp only[frm,h7,hv6]
     have HS1:=lh hpe
     have c0:w1.cell? ⟨b,o,none⟩=some (.slice A i c):=by rw[hpe.pl.cell,← H0.out.2.2.2];simp
     have f0:w1.frozen? ⟨b,o,none⟩=false:=hpe.pl.free o
     clear hvs hpe hv6 h7
     go_simp
     have h9:=HS1.out.store (V':=.slice A' (i+1) c') (flat_rk rfC) H0.out.2.2.1 HW.out
     rw[H0.out.2.2.2] at h9
     exact made_skip (T:=fun _=>fun w1=>∃ A' c',PE E N t b pre post (flat rfC) 26 8 w (.r r2) (.slice A' (i+1) c') (.slice A' (i+1) c') (i+1) (xs++[Value.int .i64 x'.kind,Value.int .i64 x'.int,Value.int .i64 x'.owner,Value.int .u64 x'.number,Value.int .i64 x'.idm,Value.int .i64 x'.ids,Value.int .i64 x'.cls,Value.bool x'.weak]) (lr++[x']) w1) ⟨A',c',h9⟩
   ·intro vs w5 hS hvs
    replace hS:(fun w1=>∃ A' c',PE E N t b pre post (flat rfC) 26 8 w (.r r2) (.slice A' (i+1) c') (.slice A' (i+1) c') (i+1) (xs++[Value.int .i64 x'.kind,Value.int .i64 x'.int,Value.int .i64 x'.owner,Value.int .u64 x'.number,Value.int .i64 x'.idm,Value.int .i64 x'.ids,Value.int .i64 x'.cls,Value.bool x'.weak]) (lr++[x']) w1) w5:=hS
    change wpList _ _ _ [] (Act.put (Act.put (Act.put (Act.put (Act.put (Act.put (Act.put (Act.put (Act.put (frm _ _ _ []) none (vs 8)) (some 57) (vs 7)) (some 56) (vs 6)) (some 55) (vs 5)) (some 54) (vs 4)) (some 53) (vs 3)) (some 52) (vs 2)) (some 51) (vs 1)) (some 50) (vs 0)) _
    simp only[frm]
    clear hvs
    generalize vs 0=z0
    generalize vs 1=z1
    generalize vs 2=z2
    generalize vs 3=z3
    generalize vs 4=z4
    generalize vs 5=z5
    generalize vs 6=z6
    generalize vs 7=z7
    generalize vs 8=z8
    obtain⟨A',c',hpe⟩:=hS
    have HP5:=lh hpe
    clear hpe
    go_wp2_with fail
    go_roundw
    case rel =>
     have e1:rep decRf r1 (i+1)=(lr++[x'],r2):=by
      have:rep decRf r1 (i+1)=((rep decRf r1 i).1++[(decRf (rep decRf r1 i).2).1],(decRf (rep decRf r1 i).2).2):=rfl
      rw[this,← HX.out.2.1,← HX.out.1,← HLR.out]
     exact⟨i+1,A',c',_,by go_num,hlt,by rw[e1];exact HP5.out⟩
    case measure=>simp[intOf];omega
  ·have hin:i=n:=by omega
   rw[hin] at hpe
   clear hpe
   have hpe:=HP.out
   rw[hin] at hpe
   have HE:=lh hpe
   clear hpe hin HP
   go_wp2_with fail
   go_end0
   refine⟨rfl,HE.out.fm,⟨A,c,?_,?_⟩,?_⟩
   ·unfold LsR
    rw[if_neg (by simp),rep_len]
    exact⟨xs,own_base HE.out.row (Nat.zero_le _),HE.out.els⟩
   ·unfold Hd
    rw[if_neg (by simp),rep_len]
    exact⟨HE.out.pl,HW.out.n1,HW.out.n2,HW.out.n3⟩
   ·unfold Fr
    rw[frS_false]
    exact HE.out.kp
theorem lsRf_any (hF:Fm E N w s) (hL:LsR (flat rfC) 26 8 s.md N w A c l) (hH:Hd E N t b pre post s.md w [.slice A l.length c]) (ho:pre.length=o) (hz:s.md=false→A=none∧c=0∧l=[]) (hx:∀ x∈l,rfP x) (hf:s.fit (encL encRf l).length):Calls Tryz.prog 158 #[.pointer (some ⟨E.gf,0,none⟩),.pointer (some ⟨b,o,none⟩),.func (.func 42) #[.pointer (some ⟨E.gf,0,none⟩)] #[]] w (LsP E N t b pre post (stp (encL encRf) (Rd.list 1024 decRf) s l).1 s.md (flat rfC) 26 8 (stp (encL encRf) (Rd.list 1024 decRf) s l).2 w):=by
 cases s with
 | w l0=>exact lsRf_w hF hL hH ho hx hf
 | r rd =>
  obtain⟨rfl,rfl,rfl⟩:=hz rfl
  exact lsRf_r hF hH ho
end
theorem i_lsIn:(Tryz.prog.info? 99).map (fun i=>(i.zero,i.size,i.bytes))=some (some (.agg #[.int .i64 0,.int .u64 0,.int .i64 0]),3,24):=by kernel_rfl
section
variable {E:Env} {N:Nat→Prop} {t:TypeId} {b o c:Nat} {A:Option Addr} {pre post:List Value} {w:World} {rd:Rd} {s:Fs} {l:List In}
set_option maxHeartbeats 8000000 in
theorem lsIn_r (hF:Fm E N w (.r rd)) (hH:Hd E N t b pre post false w [.slice none 0 0]) (ho:pre.length=o):Calls Tryz.prog 118 #[.pointer (some ⟨E.gf,0,none⟩),.pointer (some ⟨b,o,none⟩),.func (.func 119) #[.pointer (some ⟨E.gf,0,none⟩)] #[]] w (LsP E N t b pre post (.r (rd.list 1024 decIn).2) false (flat inC) 99 3 (rd.list 1024 decIn).1 w):=by
 have hbt:¬ (fun _=>False) t:=id
 have hB:=hH
 unfold Hd at hB
 rw[if_neg (by simp)] at hB
 have HF:=hF
 obtain⟨hbk,hr,hgg,hbb⟩:=HF
 obtain⟨csr,hcsr⟩:=hr.bkq
 have HW:Hid (PW E b w):=lh ⟨hB.1.lt,hcsr.lt,hbk.lt,hbb,hB.2.1,hB.2.2.1,hB.2.2.2⟩
 have hcl:=Rd.count_len (most:=1024) hr.b8
 have hcm:=Rd.count_le (r:=rd) (most:=1024) (by decide)
 have hld:rd.list 1024 decIn=rep decIn (rd.count 1024).2 (rd.count 1024).1.toNat:=rfl
 rw[hld]
 have cC:=Count_any hr hbb (show(0:Int)≤1024 by decide) (by decide)
 obtain⟨⟨n',r1⟩,hq⟩:∃ p,p=rd.count 1024:=⟨_,rfl⟩
 rw[← hq] at cC hcl hcm ⊢
 dsimp only at cC hcl hcm ⊢
 obtain⟨n,rfl⟩:=Int.eq_ofNat_of_zero_le hcl.1
 rw[Int.toNat_natCast]
 have hn:n≤1024:=by omega
 obtain⟨gf,hgf⟩:∃ gf,gf=E.gf:=⟨_,rfl⟩
 obtain⟨g,hg⟩:∃ g,g=E.g:=⟨_,rfl⟩
 have c1:w.cell? ⟨gf,1,none⟩=some (.pointer (some ⟨g,0,none⟩)):=by rw[hgf,hg];exact hbk.cell 1
 rw[← hgf]
 rw[← hg] at cC
 have HGF:=lh (And.intro hgf hg)
 have H0:=lh (And.intro hF (And.intro hB.1 (And.intro hbt ho)))
 clear hH hF hB hbk hr hgg hbb hcsr hcl hcm hld hq hgf hg hbt ho
 go_enter Tryz.func118,Tryz.ntmps118
 go_wp2_with fail
 refine cC.mono ?_
 rintro e wc ⟨rfl,hrc,hkc⟩
 have hPE:PE E N t b pre post (flat inC) 99 3 w (.r (rep decIn r1 0).2) (.slice none 0 0) (.slice none 0 0) 0 [] (rep decIn r1 0).1 wc:=by
  have hk:=hkc
  rw[HGF.out.2] at hk hrc
  refine⟨⟨H0.out.1.1.kp hk H0.out.1.2.2.1,hrc,H0.out.1.2.2.1,Nat.lt_of_lt_of_le H0.out.1.2.2.2 hk.size⟩,H0.out.2.1.kp hk HW.out.n2,World.ownsRow_nil _ _ _ _,Els.nil _ _ _,hk.mono fun _ _ h=>.inl h⟩
 have HPE:=lh hPE
 clear cC hrc hkc hPE c1
 go_wp2_with fail
 go_loopw [46] (fun ix wr=>∃ (i:Nat) (A:Option Addr) (c:Nat) (xs:List Value),ix=.int .i64 (i:Int)∧i≤n∧PE E N t b pre post (flat inC) 99 3 w (.r (rep decIn r1 i).2) (.slice A i c) (.slice A i c) i xs (rep decIn r1 i).1 wr) (fun ix _=>n - (intOf ix).toNat)
 case atStart=>exact⟨0,none,0,[],rfl,Nat.zero_le _,HPE.out⟩
 case round =>
  clear HPE
  obtain⟨i,A,c,xs,rfl,hi,hpe⟩:=hrel
  have HP:=lh hpe
  by_cases hlt:i < n
  ·obtain⟨ri,hri⟩:∃ ri,ri=(rep decIn r1 i).2:=⟨_,rfl⟩
   rw[← hri] at hpe HP
   obtain⟨w1,hw1⟩:∃ w1,w1=wr.alloc (.cells #[.int .i64 0,.int .u64 0,.int .i64 0] 99):=⟨_,rfl⟩
   obtain⟨xb,hxb⟩:∃ xb,xb=wr.heap.size:=⟨_,rfl⟩
   have hb1:Below wr.heap.size wr w1:=by rw[hw1];exact(Below.refl _ _).alloc (Nat.le_refl _) _
   have hx1:Bk w1 xb 99 #[.int .i64 0,.int .u64 0,.int .i64 0]:=by rw[hw1,hxb];exact Bk.new _ _ _
   have hwz:=hpe.kp.size
   have hHx:Hd E N 99 xb [] [] false w1 [.int .i64 0,.int .u64 0,.int .i64 0]:=by
    unfold Hd
    rw[if_neg (by simp)]
    refine⟨hx1,?_⟩
    have:=HW.out
    exact⟨by have:=this.lf;omega,by have:=this.lg;omega,by have:=this.lbb;omega⟩
   have cM:=inE_any (s:=.r ri) (x:=In.zero) (r:=[.int .i64 0,.int .u64 0,.int .i64 0]) (o:=0) (hpe.fm.below hb1) (rfl) hHx rfl (by refine⟨?_,?_,?_⟩ <;> simp[In.zero,I64,P64]) trivial
   have hs:stp encIn decIn (.r ri) In.zero=(.r (decIn ri).2,(decIn ri).1):=rfl
   rw[hs] at cM
   dsimp only at cM
   obtain⟨⟨x',r2⟩,hx'⟩:∃ p,p=decIn ri:=⟨_,rfl⟩
   rw[← hx'] at cM
   dsimp only at cM
   rw[← HGF.out.1] at cM
   have HX:=lh (And.intro hx' (And.intro hri (And.intro hb1 (And.intro hx1 hxb))))
   clear hpe hx' hri hb1 hx1 hHx hs hwz
   go_upto_region 10 with fail
   rw[← hw1,← hxb]
   clear hw1 hxb
   go_wp2_with fail
   refine cM.mono ?_
   rintro e w2 ⟨rfl,hF2,⟨rx,hrx,hHx2⟩,hfr2⟩
   have hpd:PD E N t b pre post (flat inC) 99 3 w (.r r2) (.slice A i c) (.slice A i c) i xs (rep decIn r1 i).1 xb rx x' w2:=by
    have e:=HX.out.2.2.2.2
    have h1:=HX.out.2.2.2.1
    subst e
    exact PE.read (flat_rk inC) (by decide) (by decide) HW.out HP.out HX.out.2.2.1 (rx:=[.int .i64 0,.int .u64 0,.int .i64 0]) h1 hF2 hHx2 hrx hfr2
   clear cM hF2 hHx2 hfr2
   obtain rfl:rx=inC x':=hrx
   unfold inC at hpd
   have HD:=lh hpd
   clear hpd
   try clear hrx
   obtain⟨i5,hi5,hz0,hz1,hz2⟩:=info_parts i_lsIn
   have HIN:=lh (And.intro hi5 (And.intro hz0 (And.intro hz1 hz2)))
   clear hi5 hz0 hz1 hz2
   obtain⟨lr,hlr⟩:∃ lr,lr=(rep decIn r1 i).1:=⟨_,rfl⟩
   rw[← hlr] at HD
   have HLR:=lh hlr
   clear hlr
   go_wp2_with fail
   refine wp_seq 9 (fun i=>([[],[],[1],[2],[],[4],[3,5],[0],[6,7]]:List (List Nat)).getD i []) [5,6,8] (fun i=>([2,1,1,1,0,0,0,2,0]:List Nat).getD i 0) (fun zz=>([.pointer (some ⟨b,o,none⟩),.pointer (some ⟨b,o,none⟩),.pointer (some ⟨b,o,none⟩),.slice A i c,.agg #[Value.int .i64 x'.client,Value.int .u64 x'.number,Value.int .i64 x'.out],.bool false,.bool false,.pointer (some ⟨b,o,none⟩),.bool false]:List Value).getD zz (.bool false)) (PqS (PD E N t b pre post (flat inC) 99 3 w (.r r2) (.slice A i c) (.slice A i c) i xs lr xb [Value.int .i64 x'.client,Value.int .u64 x'.number,Value.int .i64 x'.out] x') (fun v w1=>PD E N t b pre post (flat inC) 99 3 w (.r r2) (.slice A i c) (.slice A i c) i xs lr xb [Value.int .i64 x'.client,Value.int .u64 x'.number,Value.int .i64 x'.out] x' w1∧∃ kk,v=.slice (some ⟨kk,0,none⟩) 1 1∧Sl w1 3 (some ⟨kk,0,none⟩) 1 [Value.int .i64 x'.client,Value.int .u64 x'.number,Value.int .i64 x'.out]) (fun v w1=>∃ A' c',v=.slice A' (i+1) c'∧PE E N t b pre post (flat inC) 99 3 w (.r r2) (.slice A i c) (.slice A' (i+1) c') (i+1) (xs++[Value.int .i64 x'.client,Value.int .u64 x'.number,Value.int .i64 x'.out]) (lr++[x']) w1) (fun w1=>∃ A' c',PE E N t b pre post (flat inC) 99 3 w (.r r2) (.slice A' (i+1) c') (.slice A' (i+1) c') (i+1) (xs++[Value.int .i64 x'.client,Value.int .u64 x'.number,Value.int .i64 x'.out]) (lr++[x']) w1)) rfl (by kernel_rfl) (by rfl) (by kernel_rfl) ?_ ?_ ?_ ?_
   ·exact HD.out.drew (flat_rk inC)
   ·intro zi hzi hn zo ho k vs w1 hk hlow hS hvs
    rcases (show zi=0 ∨ zi=1 ∨ zi=2 ∨ zi=3 ∨ zi=4 ∨ zi=5 ∨ zi=6 ∨ zi=7 ∨ zi=8 by omega) with rfl | rfl | rfl | rfl | rfl | rfl | rfl | rfl | rfl <;> cases ho
    ·clear hS hvs hlow hk hn
     change Sem.run _ (execOp (Act.eval (frm _ _ _ [])) _) _=_
     simp only[frm]
     go_simp
    ·clear hS hvs hlow hk hn
     change Sem.run _ (execOp (Act.eval (frm _ _ _ [])) _) _=_
     simp only[frm]
     go_simp
    ·have h1:vs 1=.pointer (some ⟨b,o,none⟩):=hvs 1 (by decide) (by decide)
     clear hS hvs hlow hk hn
     change Sem.run _ (execOp (Act.eval (Act.put (frm _ _ _ []) (some 51) (vs 1))) _) _=_
     simp only[frm,h1]
     go_simp
    ·have h2:vs 2=.pointer (some ⟨b,o,none⟩):=hvs 2 (by decide) (by decide)
     replace hk:k≤1:=hk
     have hpl:Bk w1 b t (pre++[Value.slice A i c]++post).toArray:=by
      rcases (show k=0 ∨ k=1 by omega) with rfl | rfl
      ·exact(show PD E N t b pre post (flat inC) 99 3 w (.r r2) (.slice A i c) (.slice A i c) i xs lr xb [Value.int .i64 x'.client,Value.int .u64 x'.number,Value.int .i64 x'.out] x' w1 from hS).pl
      ·exact(show(fun v w1=>PD E N t b pre post (flat inC) 99 3 w (.r r2) (.slice A i c) (.slice A i c) i xs lr xb [Value.int .i64 x'.client,Value.int .u64 x'.number,Value.int .i64 x'.out] x' w1∧∃ kk,v=.slice (some ⟨kk,0,none⟩) 1 1∧Sl w1 3 (some ⟨kk,0,none⟩) 1 [Value.int .i64 x'.client,Value.int .u64 x'.number,Value.int .i64 x'.out]) (vs 5) w1 from hS).1.pl
     have c0:w1.cell? ⟨b,o,none⟩=some (.slice A i c):=by rw[hpl.cell,← H0.out.2.2.2];simp
     clear hpl
     clear hS hvs hlow hk hn
     change Sem.run _ (execOp (Act.eval (Act.put (frm _ _ _ []) (some 52) (vs 2))) _) _=_
     simp only[frm,h2]
     go_simp
    ·replace hk:k≤0:=hk
     obtain rfl:k=0:=by omega
     replace hS:PD E N t b pre post (flat inC) 99 3 w (.r r2) (.slice A i c) (.slice A i c) i xs lr xb [Value.int .i64 x'.client,Value.int .u64 x'.number,Value.int .i64 x'.out] x' w1:=hS
     have k0:w1.cell? ⟨xb,0,none⟩=some (Value.int .i64 x'.client):=hS.bx.cell 0
     have k1:w1.cell? ⟨xb,1,none⟩=some (Value.int .u64 x'.number):=hS.bx.cell 1
     have k2:w1.cell? ⟨xb,2,none⟩=some (Value.int .i64 x'.out):=hS.bx.cell 2
     clear hS hvs hlow hk hn
     change Sem.run _ (execOp (Act.eval (frm _ _ _ [])) _) _=_
     simp only[frm]
     go_simp
    ·exact absurd (by decide) hn
    ·exact absurd (by decide) hn
    ·have h0:vs 0=.pointer (some ⟨b,o,none⟩):=hvs 0 (by decide) (by decide)
     clear hS hvs hlow hk hn
     change Sem.run _ (execOp (Act.eval (Act.put (frm _ _ _ []) (some 50) (vs 0))) _) _=_
     simp only[frm,h0]
     go_simp
    ·exact absurd (by decide) hn
   ·intro p hp o ho vs w1 hS hvs
    rcases (show p=0 ∨ p=1 ∨ p=2 by change p < 3 at hp;omega) with rfl | rfl | rfl <;> cases ho
    ·replace hS:PD E N t b pre post (flat inC) 99 3 w (.r r2) (.slice A i c) (.slice A i c) i xs lr xb [Value.int .i64 x'.client,Value.int .u64 x'.number,Value.int .i64 x'.out] x' w1:=hS
     have h4:vs 4=.agg #[Value.int .i64 x'.client,Value.int .u64 x'.number,Value.int .i64 x'.out]:=hvs 4 (by decide) (by decide)
     show Made _ (fun v w1=>PD E N t b pre post (flat inC) 99 3 w (.r r2) (.slice A i c) (.slice A i c) i xs lr xb [Value.int .i64 x'.client,Value.int .u64 x'.number,Value.int .i64 x'.out] x' w1∧∃ kk,v=.slice (some ⟨kk,0,none⟩) 1 1∧Sl w1 3 (some ⟨kk,0,none⟩) 1 [Value.int .i64 x'.client,Value.int .u64 x'.number,Value.int .i64 x'.out]) _
     change Made _ _ (Sem.run _ (execOp (Act.eval (Act.put (frm _ _ _ []) (some 54) (vs 4))) _) _)
     simp only[frm,h4]
     have HS1:=lh hS
     clear hS hvs h4
     go_simp
     have hb:Below w1.heap.size w1 (w1.alloc (.cells #[Value.int .i64 x'.client,Value.int .u64 x'.number,Value.int .i64 x'.out] 99)):=(Below.refl _ _).alloc (Nat.le_refl _) _
     exact made_ok ⟨HS1.out.below (flat_rk inC) hb,_,rfl,Sl.one (w:=w1) 99 #[Value.int .i64 x'.client,Value.int .u64 x'.number,Value.int .i64 x'.out] (by simp)⟩
    ·replace hS:(fun v w1=>PD E N t b pre post (flat inC) 99 3 w (.r r2) (.slice A i c) (.slice A i c) i xs lr xb [Value.int .i64 x'.client,Value.int .u64 x'.number,Value.int .i64 x'.out] x' w1∧∃ kk,v=.slice (some ⟨kk,0,none⟩) 1 1∧Sl w1 3 (some ⟨kk,0,none⟩) 1 [Value.int .i64 x'.client,Value.int .u64 x'.number,Value.int .i64 x'.out]) (vs 5) w1:=hS
     have h3:vs 3=.slice A i c:=hvs 3 (by decide) (by decide)
     show Made _ (fun v w1=>∃ A' c',v=.slice A' (i+1) c'∧PE E N t b pre post (flat inC) 99 3 w (.r r2) (.slice A i c) (.slice A' (i+1) c') (i+1) (xs++[Value.int .i64 x'.client,Value.int .u64 x'.number,Value.int .i64 x'.out]) (lr++[x']) w1) _
     change Made _ _ (Sem.run _ (execOp (Act.eval (Act.put (Act.put (frm _ _ _ []) (some 55) (vs 5)) (some 53) (vs 3))) _) _)
     obtain⟨hpd,kk,hv5,hsl⟩:=hS
     simp only[frm,h3,hv5]
     have HS1:=lh hpd
     have HSS:=lh hsl
     have hsz:w.heap.size≤w1.heap.size:=hpd.kp.size
     clear hvs hpd hv5 hsl h3
     refine made_append (.tmp 53) (.tmp 55) 35 rfl Tryz.underlying35 HIN.out.1 HIN.out.2.1 HIN.out.2.2.1 HIN.out.2.2.2 rfl (by decide) rfl HS1.out.row rfl HSS.out (by simp[Value.oneCell']) (by unfold maxLen;omega) (by omega) hsz ?_
     intro v' w' ho' hg' h4'
     obtain⟨A',c',rfl,_⟩:=own_shape ho'
     exact⟨A',c',rfl,HS1.out.grow (flat_rk inC) (by decide) HW.out rfl hg' ho'⟩
    ·replace hS:(fun v w1=>∃ A' c',v=.slice A' (i+1) c'∧PE E N t b pre post (flat inC) 99 3 w (.r r2) (.slice A i c) (.slice A' (i+1) c') (i+1) (xs++[Value.int .i64 x'.client,Value.int .u64 x'.number,Value.int .i64 x'.out]) (lr++[x']) w1) (vs 6) w1:=hS
     have h7:vs 7=.pointer (some ⟨b,o,none⟩):=hvs 7 (by decide) (by decide)
     show Made _ (fun _=>(fun w1=>∃ A' c',PE E N t b pre post (flat inC) 99 3 w (.r r2) (.slice A' (i+1) c') (.slice A' (i+1) c') (i+1) (xs++[Value.int .i64 x'.client,Value.int .u64 x'.number,Value.int .i64 x'.out]) (lr++[x']) w1)) _
     change Made _ _ (Sem.run _ (execOp (Act.eval (Act.put (Act.put (frm _ _ _ []) (some 57) (vs 7)) (some 56) (vs 6))) _) _)
     obtain⟨A',c',hv6,hpe⟩:=hS
     simp only[frm,h7,hv6]
     have HS1:=lh hpe
     have c0:w1.cell? ⟨b,o,none⟩=some (.slice A i c):=by rw[hpe.pl.cell,← H0.out.2.2.2];simp
     have f0:w1.frozen? ⟨b,o,none⟩=false:=hpe.pl.free o
     clear hvs hpe hv6 h7
     go_simp
     have h9:=HS1.out.store (V':=.slice A' (i+1) c') (flat_rk inC) H0.out.2.2.1 HW.out
     rw[H0.out.2.2.2] at h9
     exact made_skip (T:=fun _=>fun w1=>∃ A' c',PE E N t b pre post (flat inC) 99 3 w (.r r2) (.slice A' (i+1) c') (.slice A' (i+1) c') (i+1) (xs++[Value.int .i64 x'.client,Value.int .u64 x'.number,Value.int .i64 x'.out]) (lr++[x']) w1) ⟨A',c',h9⟩
   ·intro vs w5 hS hvs
    replace hS:(fun w1=>∃ A' c',PE E N t b pre post (flat inC) 99 3 w (.r r2) (.slice A' (i+1) c') (.slice A' (i+1) c') (i+1) (xs++[Value.int .i64 x'.client,Value.int .u64 x'.number,Value.int .i64 x'.out]) (lr++[x']) w1) w5:=hS
    change wpList _ _ _ [] (Act.put (Act.put (Act.put (Act.put (Act.put (Act.put (Act.put (Act.put (Act.put (frm _ _ _ []) none (vs 8)) (some 57) (vs 7)) (some 56) (vs 6)) (some 55) (vs 5)) (some 54) (vs 4)) (some 53) (vs 3)) (some 52) (vs 2)) (some 51) (vs 1)) (some 50) (vs 0)) _
    simp only[frm]
    clear hvs
    generalize vs 0=z0
    generalize vs 1=z1
    generalize vs 2=z2
    generalize vs 3=z3
    generalize vs 4=z4
    generalize vs 5=z5
    generalize vs 6=z6
    generalize vs 7=z7
    generalize vs 8=z8
    obtain⟨A',c',hpe⟩:=hS
    have HP5:=lh hpe
    clear hpe
    go_wp2_with fail
    go_roundw
    case rel =>
     have e1:rep decIn r1 (i+1)=(lr++[x'],r2):=by
      have:rep decIn r1 (i+1)=((rep decIn r1 i).1++[(decIn (rep decIn r1 i).2).1],(decIn (rep decIn r1 i).2).2):=rfl
      rw[this,← HX.out.2.1,← HX.out.1,← HLR.out]
     exact⟨i+1,A',c',_,by go_num,hlt,by rw[e1];exact HP5.out⟩
    case measure=>simp[intOf];omega
  ·have hin:i=n:=by omega
   rw[hin] at hpe
   clear hpe
   have hpe:=HP.out
   rw[hin] at hpe
   have HE:=lh hpe
   clear hpe hin HP
   go_wp2_with fail
   go_end0
   refine⟨rfl,HE.out.fm,⟨A,c,?_,?_⟩,?_⟩
   ·unfold LsR
    rw[if_neg (by simp),rep_len]
    exact⟨xs,own_base HE.out.row (Nat.zero_le _),HE.out.els⟩
   ·unfold Hd
    rw[if_neg (by simp),rep_len]
    exact⟨HE.out.pl,HW.out.n1,HW.out.n2,HW.out.n3⟩
   ·unfold Fr
    rw[frS_false]
    exact HE.out.kp
theorem lsIn_any (hF:Fm E N w s) (hL:LsR (flat inC) 99 3 s.md N w A c l) (hH:Hd E N t b pre post s.md w [.slice A l.length c]) (ho:pre.length=o) (hz:s.md=false→A=none∧c=0∧l=[]) (hx:∀ x∈l,inP x) (hf:s.fit (encL encIn l).length):Calls Tryz.prog 118 #[.pointer (some ⟨E.gf,0,none⟩),.pointer (some ⟨b,o,none⟩),.func (.func 119) #[.pointer (some ⟨E.gf,0,none⟩)] #[]] w (LsP E N t b pre post (stp (encL encIn) (Rd.list 1024 decIn) s l).1 s.md (flat inC) 99 3 (stp (encL encIn) (Rd.list 1024 decIn) s l).2 w):=by
 cases s with
 | w l0=>exact lsIn_w hF hL hH ho hx hf
 | r rd =>
  obtain⟨rfl,rfl,rfl⟩:=hz rfl
  exact lsIn_r hF hH ho
end
theorem i_lsNd:(Tryz.prog.info? 136).map (fun i=>(i.zero,i.size,i.bytes))=some (some (.agg #[.int .i64 0,.int .u64 0,.int .i64 0]),3,24):=by kernel_rfl
section
variable {E:Env} {N:Nat→Prop} {t:TypeId} {b o c:Nat} {A:Option Addr} {pre post:List Value} {w:World} {rd:Rd} {s:Fs} {l:List Nd}
set_option maxHeartbeats 8000000 in
theorem lsNd_r (hF:Fm E N w (.r rd)) (hH:Hd E N t b pre post false w [.slice none 0 0]) (ho:pre.length=o):Calls Tryz.prog 120 #[.pointer (some ⟨E.gf,0,none⟩),.pointer (some ⟨b,o,none⟩),.func (.func 121) #[.pointer (some ⟨E.gf,0,none⟩)] #[]] w (LsP E N t b pre post (.r (rd.list 1024 decNd).2) false (flat ndC) 136 3 (rd.list 1024 decNd).1 w):=by
 have hbt:¬ (fun _=>False) t:=id
 have hB:=hH
 unfold Hd at hB
 rw[if_neg (by simp)] at hB
 have HF:=hF
 obtain⟨hbk,hr,hgg,hbb⟩:=HF
 obtain⟨csr,hcsr⟩:=hr.bkq
 have HW:Hid (PW E b w):=lh ⟨hB.1.lt,hcsr.lt,hbk.lt,hbb,hB.2.1,hB.2.2.1,hB.2.2.2⟩
 have hcl:=Rd.count_len (most:=1024) hr.b8
 have hcm:=Rd.count_le (r:=rd) (most:=1024) (by decide)
 have hld:rd.list 1024 decNd=rep decNd (rd.count 1024).2 (rd.count 1024).1.toNat:=rfl
 rw[hld]
 have cC:=Count_any hr hbb (show(0:Int)≤1024 by decide) (by decide)
 obtain⟨⟨n',r1⟩,hq⟩:∃ p,p=rd.count 1024:=⟨_,rfl⟩
 rw[← hq] at cC hcl hcm ⊢
 dsimp only at cC hcl hcm ⊢
 obtain⟨n,rfl⟩:=Int.eq_ofNat_of_zero_le hcl.1
 rw[Int.toNat_natCast]
 have hn:n≤1024:=by omega
 obtain⟨gf,hgf⟩:∃ gf,gf=E.gf:=⟨_,rfl⟩
 obtain⟨g,hg⟩:∃ g,g=E.g:=⟨_,rfl⟩
 have c1:w.cell? ⟨gf,1,none⟩=some (.pointer (some ⟨g,0,none⟩)):=by rw[hgf,hg];exact hbk.cell 1
 rw[← hgf]
 rw[← hg] at cC
 have HGF:=lh (And.intro hgf hg)
 have H0:=lh (And.intro hF (And.intro hB.1 (And.intro hbt ho)))
 clear hH hF hB hbk hr hgg hbb hcsr hcl hcm hld hq hgf hg hbt ho
 go_enter Tryz.func120,Tryz.ntmps120
 go_wp2_with fail
 refine cC.mono ?_
 rintro e wc ⟨rfl,hrc,hkc⟩
 have hPE:PE E N t b pre post (flat ndC) 136 3 w (.r (rep decNd r1 0).2) (.slice none 0 0) (.slice none 0 0) 0 [] (rep decNd r1 0).1 wc:=by
  have hk:=hkc
  rw[HGF.out.2] at hk hrc
  refine⟨⟨H0.out.1.1.kp hk H0.out.1.2.2.1,hrc,H0.out.1.2.2.1,Nat.lt_of_lt_of_le H0.out.1.2.2.2 hk.size⟩,H0.out.2.1.kp hk HW.out.n2,World.ownsRow_nil _ _ _ _,Els.nil _ _ _,hk.mono fun _ _ h=>.inl h⟩
 have HPE:=lh hPE
 clear cC hrc hkc hPE c1
 go_wp2_with fail
 go_loopw [46] (fun ix wr=>∃ (i:Nat) (A:Option Addr) (c:Nat) (xs:List Value),ix=.int .i64 (i:Int)∧i≤n∧PE E N t b pre post (flat ndC) 136 3 w (.r (rep decNd r1 i).2) (.slice A i c) (.slice A i c) i xs (rep decNd r1 i).1 wr) (fun ix _=>n - (intOf ix).toNat)
 case atStart=>exact⟨0,none,0,[],rfl,Nat.zero_le _,HPE.out⟩
 case round =>
  clear HPE
  obtain⟨i,A,c,xs,rfl,hi,hpe⟩:=hrel
  have HP:=lh hpe
  by_cases hlt:i < n
  ·obtain⟨ri,hri⟩:∃ ri,ri=(rep decNd r1 i).2:=⟨_,rfl⟩
   rw[← hri] at hpe HP
   obtain⟨w1,hw1⟩:∃ w1,w1=wr.alloc (.cells #[.int .i64 0,.int .u64 0,.int .i64 0] 136):=⟨_,rfl⟩
   obtain⟨xb,hxb⟩:∃ xb,xb=wr.heap.size:=⟨_,rfl⟩
   have hb1:Below wr.heap.size wr w1:=by rw[hw1];exact(Below.refl _ _).alloc (Nat.le_refl _) _
   have hx1:Bk w1 xb 136 #[.int .i64 0,.int .u64 0,.int .i64 0]:=by rw[hw1,hxb];exact Bk.new _ _ _
   have hwz:=hpe.kp.size
   have hHx:Hd E N 136 xb [] [] false w1 [.int .i64 0,.int .u64 0,.int .i64 0]:=by
    unfold Hd
    rw[if_neg (by simp)]
    refine⟨hx1,?_⟩
    have:=HW.out
    exact⟨by have:=this.lf;omega,by have:=this.lg;omega,by have:=this.lbb;omega⟩
   have cM:=ndE_any (s:=.r ri) (x:=Nd.zero) (r:=[.int .i64 0,.int .u64 0,.int .i64 0]) (o:=0) (hpe.fm.below hb1) (rfl) hHx rfl (by refine⟨?_,?_,?_⟩ <;> simp[Nd.zero,I64,P64]) trivial
   have hs:stp encNd decNd (.r ri) Nd.zero=(.r (decNd ri).2,(decNd ri).1):=rfl
   rw[hs] at cM
   dsimp only at cM
   obtain⟨⟨x',r2⟩,hx'⟩:∃ p,p=decNd ri:=⟨_,rfl⟩
   rw[← hx'] at cM
   dsimp only at cM
   rw[← HGF.out.1] at cM
   have HX:=lh (And.intro hx' (And.intro hri (And.intro hb1 (And.intro hx1 hxb))))
   clear hpe hx' hri hb1 hx1 hHx hs hwz
   go_upto_region 10 with fail
   rw[← hw1,← hxb]
   clear hw1 hxb
   go_wp2_with fail
   refine cM.mono ?_
   rintro e w2 ⟨rfl,hF2,⟨rx,hrx,hHx2⟩,hfr2⟩
   have hpd:PD E N t b pre post (flat ndC) 136 3 w (.r r2) (.slice A i c) (.slice A i c) i xs (rep decNd r1 i).1 xb rx x' w2:=by
    have e:=HX.out.2.2.2.2
    have h1:=HX.out.2.2.2.1
    subst e
    exact PE.read (flat_rk ndC) (by decide) (by decide) HW.out HP.out HX.out.2.2.1 (rx:=[.int .i64 0,.int .u64 0,.int .i64 0]) h1 hF2 hHx2 hrx hfr2
   clear cM hF2 hHx2 hfr2
   obtain rfl:rx=ndC x':=hrx
   unfold ndC at hpd
   have HD:=lh hpd
   clear hpd
   try clear hrx
   obtain⟨i5,hi5,hz0,hz1,hz2⟩:=info_parts i_lsNd
   have HIN:=lh (And.intro hi5 (And.intro hz0 (And.intro hz1 hz2)))
   clear hi5 hz0 hz1 hz2
   obtain⟨lr,hlr⟩:∃ lr,lr=(rep decNd r1 i).1:=⟨_,rfl⟩
   rw[← hlr] at HD
   have HLR:=lh hlr
   clear hlr
   go_wp2_with fail
   refine wp_seq 9 (fun i=>([[],[],[1],[2],[],[4],[3,5],[0],[6,7]]:List (List Nat)).getD i []) [5,6,8] (fun i=>([2,1,1,1,0,0,0,2,0]:List Nat).getD i 0) (fun zz=>([.pointer (some ⟨b,o,none⟩),.pointer (some ⟨b,o,none⟩),.pointer (some ⟨b,o,none⟩),.slice A i c,.agg #[Value.int .i64 x'.peer,Value.int .u64 x'.number,Value.int .i64 x'.stamp],.bool false,.bool false,.pointer (some ⟨b,o,none⟩),.bool false]:List Value).getD zz (.bool false)) (PqS (PD E N t b pre post (flat ndC) 136 3 w (.r r2) (.slice A i c) (.slice A i c) i xs lr xb [Value.int .i64 x'.peer,Value.int .u64 x'.number,Value.int .i64 x'.stamp] x') (fun v w1=>PD E N t b pre post (flat ndC) 136 3 w (.r r2) (.slice A i c) (.slice A i c) i xs lr xb [Value.int .i64 x'.peer,Value.int .u64 x'.number,Value.int .i64 x'.stamp] x' w1∧∃ kk,v=.slice (some ⟨kk,0,none⟩) 1 1∧Sl w1 3 (some ⟨kk,0,none⟩) 1 [Value.int .i64 x'.peer,Value.int .u64 x'.number,Value.int .i64 x'.stamp]) (fun v w1=>∃ A' c',v=.slice A' (i+1) c'∧PE E N t b pre post (flat ndC) 136 3 w (.r r2) (.slice A i c) (.slice A' (i+1) c') (i+1) (xs++[Value.int .i64 x'.peer,Value.int .u64 x'.number,Value.int .i64 x'.stamp]) (lr++[x']) w1) (fun w1=>∃ A' c',PE E N t b pre post (flat ndC) 136 3 w (.r r2) (.slice A' (i+1) c') (.slice A' (i+1) c') (i+1) (xs++[Value.int .i64 x'.peer,Value.int .u64 x'.number,Value.int .i64 x'.stamp]) (lr++[x']) w1)) rfl (by kernel_rfl) (by rfl) (by kernel_rfl) ?_ ?_ ?_ ?_
   ·exact HD.out.drew (flat_rk ndC)
   ·intro zi hzi hn zo ho k vs w1 hk hlow hS hvs
    rcases (show zi=0 ∨ zi=1 ∨ zi=2 ∨ zi=3 ∨ zi=4 ∨ zi=5 ∨ zi=6 ∨ zi=7 ∨ zi=8 by omega) with rfl | rfl | rfl | rfl | rfl | rfl | rfl | rfl | rfl <;> cases ho
    ·clear hS hvs hlow hk hn
     change Sem.run _ (execOp (Act.eval (frm _ _ _ [])) _) _=_
     simp only[frm]
     go_simp
    ·clear hS hvs hlow hk hn
     change Sem.run _ (execOp (Act.eval (frm _ _ _ [])) _) _=_
     simp only[frm]
     go_simp
    ·have h1:vs 1=.pointer (some ⟨b,o,none⟩):=hvs 1 (by decide) (by decide)
     clear hS hvs hlow hk hn
     change Sem.run _ (execOp (Act.eval (Act.put (frm _ _ _ []) (some 51) (vs 1))) _) _=_
     simp only[frm,h1]
     go_simp
    ·have h2:vs 2=.pointer (some ⟨b,o,none⟩):=hvs 2 (by decide) (by decide)
     replace hk:k≤1:=hk
     have hpl:Bk w1 b t (pre++[Value.slice A i c]++post).toArray:=by
      rcases (show k=0 ∨ k=1 by omega) with rfl | rfl
      ·exact(show PD E N t b pre post (flat ndC) 136 3 w (.r r2) (.slice A i c) (.slice A i c) i xs lr xb [Value.int .i64 x'.peer,Value.int .u64 x'.number,Value.int .i64 x'.stamp] x' w1 from hS).pl
      ·exact(show(fun v w1=>PD E N t b pre post (flat ndC) 136 3 w (.r r2) (.slice A i c) (.slice A i c) i xs lr xb [Value.int .i64 x'.peer,Value.int .u64 x'.number,Value.int .i64 x'.stamp] x' w1∧∃ kk,v=.slice (some ⟨kk,0,none⟩) 1 1∧Sl w1 3 (some ⟨kk,0,none⟩) 1 [Value.int .i64 x'.peer,Value.int .u64 x'.number,Value.int .i64 x'.stamp]) (vs 5) w1 from hS).1.pl
     have c0:w1.cell? ⟨b,o,none⟩=some (.slice A i c):=by rw[hpl.cell,← H0.out.2.2.2];simp
     clear hpl
     clear hS hvs hlow hk hn
     change Sem.run _ (execOp (Act.eval (Act.put (frm _ _ _ []) (some 52) (vs 2))) _) _=_
     simp only[frm,h2]
     go_simp
    ·replace hk:k≤0:=hk
     obtain rfl:k=0:=by omega
     replace hS:PD E N t b pre post (flat ndC) 136 3 w (.r r2) (.slice A i c) (.slice A i c) i xs lr xb [Value.int .i64 x'.peer,Value.int .u64 x'.number,Value.int .i64 x'.stamp] x' w1:=hS
     have k0:w1.cell? ⟨xb,0,none⟩=some (Value.int .i64 x'.peer):=hS.bx.cell 0
     have k1:w1.cell? ⟨xb,1,none⟩=some (Value.int .u64 x'.number):=hS.bx.cell 1
     have k2:w1.cell? ⟨xb,2,none⟩=some (Value.int .i64 x'.stamp):=hS.bx.cell 2
     clear hS hvs hlow hk hn
     change Sem.run _ (execOp (Act.eval (frm _ _ _ [])) _) _=_
     simp only[frm]
     go_simp
    ·exact absurd (by decide) hn
    ·exact absurd (by decide) hn
    ·have h0:vs 0=.pointer (some ⟨b,o,none⟩):=hvs 0 (by decide) (by decide)
     clear hS hvs hlow hk hn
     change Sem.run _ (execOp (Act.eval (Act.put (frm _ _ _ []) (some 50) (vs 0))) _) _=_
     simp only[frm,h0]
     go_simp
    ·exact absurd (by decide) hn
   ·intro p hp o ho vs w1 hS hvs
    rcases (show p=0 ∨ p=1 ∨ p=2 by change p < 3 at hp;omega) with rfl | rfl | rfl <;> cases ho
    ·replace hS:PD E N t b pre post (flat ndC) 136 3 w (.r r2) (.slice A i c) (.slice A i c) i xs lr xb [Value.int .i64 x'.peer,Value.int .u64 x'.number,Value.int .i64 x'.stamp] x' w1:=hS
     have h4:vs 4=.agg #[Value.int .i64 x'.peer,Value.int .u64 x'.number,Value.int .i64 x'.stamp]:=hvs 4 (by decide) (by decide)
     show Made _ (fun v w1=>PD E N t b pre post (flat ndC) 136 3 w (.r r2) (.slice A i c) (.slice A i c) i xs lr xb [Value.int .i64 x'.peer,Value.int .u64 x'.number,Value.int .i64 x'.stamp] x' w1∧∃ kk,v=.slice (some ⟨kk,0,none⟩) 1 1∧Sl w1 3 (some ⟨kk,0,none⟩) 1 [Value.int .i64 x'.peer,Value.int .u64 x'.number,Value.int .i64 x'.stamp]) _
     change Made _ _ (Sem.run _ (execOp (Act.eval (Act.put (frm _ _ _ []) (some 54) (vs 4))) _) _)
     simp only[frm,h4]
     have HS1:=lh hS
     clear hS hvs h4
     go_simp
     have hb:Below w1.heap.size w1 (w1.alloc (.cells #[Value.int .i64 x'.peer,Value.int .u64 x'.number,Value.int .i64 x'.stamp] 136)):=(Below.refl _ _).alloc (Nat.le_refl _) _
     exact made_ok ⟨HS1.out.below (flat_rk ndC) hb,_,rfl,Sl.one (w:=w1) 136 #[Value.int .i64 x'.peer,Value.int .u64 x'.number,Value.int .i64 x'.stamp] (by simp)⟩
    ·replace hS:(fun v w1=>PD E N t b pre post (flat ndC) 136 3 w (.r r2) (.slice A i c) (.slice A i c) i xs lr xb [Value.int .i64 x'.peer,Value.int .u64 x'.number,Value.int .i64 x'.stamp] x' w1∧∃ kk,v=.slice (some ⟨kk,0,none⟩) 1 1∧Sl w1 3 (some ⟨kk,0,none⟩) 1 [Value.int .i64 x'.peer,Value.int .u64 x'.number,Value.int .i64 x'.stamp]) (vs 5) w1:=hS
     have h3:vs 3=.slice A i c:=hvs 3 (by decide) (by decide)
     show Made _ (fun v w1=>∃ A' c',v=.slice A' (i+1) c'∧PE E N t b pre post (flat ndC) 136 3 w (.r r2) (.slice A i c) (.slice A' (i+1) c') (i+1) (xs++[Value.int .i64 x'.peer,Value.int .u64 x'.number,Value.int .i64 x'.stamp]) (lr++[x']) w1) _
     change Made _ _ (Sem.run _ (execOp (Act.eval (Act.put (Act.put (frm _ _ _ []) (some 55) (vs 5)) (some 53) (vs 3))) _) _)
     obtain⟨hpd,kk,hv5,hsl⟩:=hS
     simp only[frm,h3,hv5]
     have HS1:=lh hpd
     have HSS:=lh hsl
     have hsz:w.heap.size≤w1.heap.size:=hpd.kp.size
     clear hvs hpd hv5 hsl h3
     refine made_append (.tmp 53) (.tmp 55) 38 rfl Tryz.underlying38 HIN.out.1 HIN.out.2.1 HIN.out.2.2.1 HIN.out.2.2.2 rfl (by decide) rfl HS1.out.row rfl HSS.out (by simp[Value.oneCell']) (by unfold maxLen;omega) (by omega) hsz ?_
     intro v' w' ho' hg' h4'
     obtain⟨A',c',rfl,_⟩:=own_shape ho'
     exact⟨A',c',rfl,HS1.out.grow (flat_rk ndC) (by decide) HW.out rfl hg' ho'⟩
    ·replace hS:(fun v w1=>∃ A' c',v=.slice A' (i+1) c'∧PE E N t b pre post (flat ndC) 136 3 w (.r r2) (.slice A i c) (.slice A' (i+1) c') (i+1) (xs++[Value.int .i64 x'.peer,Value.int .u64 x'.number,Value.int .i64 x'.stamp]) (lr++[x']) w1) (vs 6) w1:=hS
     have h7:vs 7=.pointer (some ⟨b,o,none⟩):=hvs 7 (by decide) (by decide)
     show Made _ (fun _=>(fun w1=>∃ A' c',PE E N t b pre post (flat ndC) 136 3 w (.r r2) (.slice A' (i+1) c') (.slice A' (i+1) c') (i+1) (xs++[Value.int .i64 x'.peer,Value.int .u64 x'.number,Value.int .i64 x'.stamp]) (lr++[x']) w1)) _
     change Made _ _ (Sem.run _ (execOp (Act.eval (Act.put (Act.put (frm _ _ _ []) (some 57) (vs 7)) (some 56) (vs 6))) _) _)
     obtain⟨A',c',hv6,hpe⟩:=hS
     simp only[frm,h7,hv6]
     have HS1:=lh hpe
     have c0:w1.cell? ⟨b,o,none⟩=some (.slice A i c):=by rw[hpe.pl.cell,← H0.out.2.2.2];simp
     have f0:w1.frozen? ⟨b,o,none⟩=false:=hpe.pl.free o
     clear hvs hpe hv6 h7
     go_simp
     have h9:=HS1.out.store (V':=.slice A' (i+1) c') (flat_rk ndC) H0.out.2.2.1 HW.out
     rw[H0.out.2.2.2] at h9
     exact made_skip (T:=fun _=>fun w1=>∃ A' c',PE E N t b pre post (flat ndC) 136 3 w (.r r2) (.slice A' (i+1) c') (.slice A' (i+1) c') (i+1) (xs++[Value.int .i64 x'.peer,Value.int .u64 x'.number,Value.int .i64 x'.stamp]) (lr++[x']) w1) ⟨A',c',h9⟩
   ·intro vs w5 hS hvs
    replace hS:(fun w1=>∃ A' c',PE E N t b pre post (flat ndC) 136 3 w (.r r2) (.slice A' (i+1) c') (.slice A' (i+1) c') (i+1) (xs++[Value.int .i64 x'.peer,Value.int .u64 x'.number,Value.int .i64 x'.stamp]) (lr++[x']) w1) w5:=hS
    change wpList _ _ _ [] (Act.put (Act.put (Act.put (Act.put (Act.put (Act.put (Act.put (Act.put (Act.put (frm _ _ _ []) none (vs 8)) (some 57) (vs 7)) (some 56) (vs 6)) (some 55) (vs 5)) (some 54) (vs 4)) (some 53) (vs 3)) (some 52) (vs 2)) (some 51) (vs 1)) (some 50) (vs 0)) _
    simp only[frm]
    clear hvs
    generalize vs 0=z0
    generalize vs 1=z1
    generalize vs 2=z2
    generalize vs 3=z3
    generalize vs 4=z4
    generalize vs 5=z5
    generalize vs 6=z6
    generalize vs 7=z7
    generalize vs 8=z8
    obtain⟨A',c',hpe⟩:=hS
    have HP5:=lh hpe
    clear hpe
    go_wp2_with fail
    go_roundw
    case rel =>
     have e1:rep decNd r1 (i+1)=(lr++[x'],r2):=by
      have:rep decNd r1 (i+1)=((rep decNd r1 i).1++[(decNd (rep decNd r1 i).2).1],(decNd (rep decNd r1 i).2).2):=rfl
      rw[this,← HX.out.2.1,← HX.out.1,← HLR.out]
     exact⟨i+1,A',c',_,by go_num,hlt,by rw[e1];exact HP5.out⟩
    case measure=>simp[intOf];omega
  ·have hin:i=n:=by omega
   rw[hin] at hpe
   clear hpe
   have hpe:=HP.out
   rw[hin] at hpe
   have HE:=lh hpe
   clear hpe hin HP
   go_wp2_with fail
   go_end0
   refine⟨rfl,HE.out.fm,⟨A,c,?_,?_⟩,?_⟩
   ·unfold LsR
    rw[if_neg (by simp),rep_len]
    exact⟨xs,own_base HE.out.row (Nat.zero_le _),HE.out.els⟩
   ·unfold Hd
    rw[if_neg (by simp),rep_len]
    exact⟨HE.out.pl,HW.out.n1,HW.out.n2,HW.out.n3⟩
   ·unfold Fr
    rw[frS_false]
    exact HE.out.kp
theorem lsNd_any (hF:Fm E N w s) (hL:LsR (flat ndC) 136 3 s.md N w A c l) (hH:Hd E N t b pre post s.md w [.slice A l.length c]) (ho:pre.length=o) (hz:s.md=false→A=none∧c=0∧l=[]) (hx:∀ x∈l,ndP x) (hf:s.fit (encL encNd l).length):Calls Tryz.prog 120 #[.pointer (some ⟨E.gf,0,none⟩),.pointer (some ⟨b,o,none⟩),.func (.func 121) #[.pointer (some ⟨E.gf,0,none⟩)] #[]] w (LsP E N t b pre post (stp (encL encNd) (Rd.list 1024 decNd) s l).1 s.md (flat ndC) 136 3 (stp (encL encNd) (Rd.list 1024 decNd) s l).2 w):=by
 cases s with
 | w l0=>exact lsNd_w hF hL hH ho hx hf
 | r rd =>
  obtain⟨rfl,rfl,rfl⟩:=hz rfl
  exact lsNd_r hF hH ho
end
end
end Go.Proofs.YtmbnlccafcfbeaaGreatDoor
