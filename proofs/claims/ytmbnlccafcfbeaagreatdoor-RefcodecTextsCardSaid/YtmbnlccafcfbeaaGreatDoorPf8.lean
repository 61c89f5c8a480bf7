/- Parts of the proof: RcL4. -/
import Derived.Test.YtmbnlccafcfbeaaGreatDoorPfA
import Derived.Test.YtmbnlccafcfbeaaGreatDoorPf7
set_option linter.unusedVariables false
set_option linter.unusedSimpArgs false
set_option linter.unusedSectionVars false
set_option maxRecDepth 100000
set_option maxHeartbeats 64000000
namespace Go.Proofs.YtmbnlccafcfbeaaGreatDoor
section
open Go.RowKit
attribute [local go_sem] Oper.semAt_some
section
variable {E:Env} {N:Nat→Prop} {t:TypeId} {b o c:Nat} {A:Option Addr} {pre post:List Value} {w:World} {l0:List Int} {rd:Rd} {s:Fs} {l:List Lt}
theorem lsLt_w (hF:Fm E N w (.w l0)) (hL:LsR LtR 29 4 true N w A c l) (hH:Hd E N t b pre post true w [.slice A l.length c]) (ho:pre.length=o) (hx:∀ x∈l,ltP x) (hl:l0.length+(qc6 qc8 l).length≤2147483648):Calls Tryz.prog 115 #[pq E.gf 0,pq b o,.func (.func 53) #[pq E.gf 0] #[]] w (LsP E N t b pre post (.w (l0++qc6 qc8 l)) true LtR 29 4 l w):=by
 have hLL:=hL;unfold LsR at hLL;rw[if_pos rfl] at hLL;obtain⟨hlc,hln,hel⟩:=hLL;obtain⟨A0,c0_,hbk,hw,hN,hgN,hNl⟩:=hF;have hc:=(hH.cell (j:=0) rfl).1;have hb:N b:=by unfold Hd at hH;rw[if_pos rfl] at hH;exact hH.1
 rw[Nat.add_zero,ho] at hc
 obtain⟨gf,hgf⟩:∃ gf,gf=E.gf:=⟨_,rfl⟩
 have c0:w.cell? ⟨gf,0,none⟩=some (.slice A0 l0.length c0_):=by rw[hgf];exact hbk.cell 0
 have c1:w.cell? ⟨gf,1,none⟩=some (.pointer none):=by rw[hgf];exact hbk.cell 1
 have hlt:gf < w.heap.size:=by rw[hgf];exact hbk.lt
 have HS:Hid (LfD0 E N w l0 A0 c0_ b o (.slice A l.length c) w):=lh ⟨hbk,hw,hc,Kp.refl _ _⟩;have HH:=lh (And.intro hH (And.intro hL (And.intro hel hx)));have HN:=lh (And.intro hN (And.intro hgN (And.intro hNl hb)));have hwn:IntKind.u64.wrap (l.length:Int)=(l.length:Int):=by rw[IntKind.wrap_u64];omega
 have hul:(qd8 (l.length:Int)).length≤(qc6 qc8 l).length:=by unfold qc6;rw[List.length_append];omega
 obtain⟨l',hl'⟩:∃ l',l'=l0++qd8 (l.length:Int):=⟨_,rfl⟩
 rw[← hgf];have HGF:=lh hgf;have HL:=lh (And.intro hl (And.intro hul hl'));have HO:=lh ho;clear hbk hw hN hgN hNl hH hc hb hl' hgf hL hel hx hul hl ho
 go_enter Tryz.func115,Tryz.ntmps115
 go_upto_region 1 with fail
 clear c0 c1;refine qc9 14 (fun i=>([[],[],[1],[2],[3],[],[5],[6],[7],[8],[4,9],[0],[11],[10,12]]:List (List Nat)).getD i []) [10,13] (fun i=>([1,0,0,0,0,0,0,0,0,0,0,1,1,0]:List Nat).getD i 0) (fun zz=>([pq gf 0,pq gf 0,pq gf 0,pq gf 0,.slice A0 l0.length c0_,pq b o,pq b o,.slice A l.length c,iv (l.length:Int),uv (l.length:Int),bf,pq gf 0,pq gf 0,bf]:List Value).getD zz (bf)) (LfS (LfD0 E N w l0 A0 c0_ b o (.slice A l.length c)) (LfD1 E N w l' A0 l0.length c0_) (LfD2 E N w l')) rfl (by kernel_rfl) (by rfl) (by kernel_rfl) ?_ ?_ ?_ ?_
 ·exact⟨HS.o.1.kp ((Kp.refl (fun _=>False) w).drew) (fun h=>h),ql0 HS.o.2.1 ((Kp.refl (fun _=>False) w).drew) (fun _ _ h=>h),HS.o.2.2.1,HS.o.2.2.2.drew⟩
 ·intro zi hzi hn zo ho k vs w1 hk hlow hS hvs;rcases (show zi=0 ∨ zi=1 ∨ zi=2 ∨ zi=3 ∨ zi=4 ∨ zi=5 ∨ zi=6 ∨ zi=7 ∨ zi=8 ∨ zi=9 ∨ zi=10 ∨ zi=11 ∨ zi=12 ∨ zi=13 by omega) with rfl | rfl | rfl | rfl | rfl | rfl | rfl | rfl | rfl | rfl | rfl | rfl | rfl | rfl <;> cases ho
  ·clear hS hvs hlow hk hn;change Sem.run _ (execOp (Act.eval (frm _ _ _ [])) _) _=_;simp only[frm];go_simp
  ·clear hS hvs hlow hk hn;change Sem.run _ (execOp (Act.eval (frm _ _ _ [])) _) _=_;simp only[frm];go_simp
  ·have h1:vs 1=pq gf 0:=hvs 1 (by decide) (by decide);clear hS hvs hlow hk hn;change Sem.run _ (execOp (Act.eval (Act.put (frm _ _ _ []) (some 14) (vs 1))) _) _=_;simp only[frm,h1];go_simp
  ·have h2:vs 2=pq gf 0:=hvs 2 (by decide) (by decide);clear hS hvs hlow hk hn;change Sem.run _ (execOp (Act.eval (Act.put (frm _ _ _ []) (some 15) (vs 2))) _) _=_;simp only[frm,h2];go_simp
  ·have h3:vs 3=pq gf 0:=hvs 3 (by decide) (by decide);replace hk:k≤0:=hk;obtain rfl:k=0:=by omega
   replace hS:LfD0 E N w l0 A0 c0_ b o (.slice A l.length c) w1:=hS;have c0:w1.cell? ⟨gf,0,none⟩=some (.slice A0 l0.length c0_):=by rw[HGF.o];exact hS.1.cell 0
   clear hS hvs hlow hk hn;change Sem.run _ (execOp (Act.eval (Act.put (frm _ _ _ []) (some 16) (vs 3))) _) _=_;simp only[frm,h3];go_simp
  ·clear hS hvs hlow hk hn;change Sem.run _ (execOp (Act.eval (frm _ _ _ [])) _) _=_;simp only[frm];go_simp
  ·have h5:vs 5=pq b o:=hvs 5 (by decide) (by decide);clear hS hvs hlow hk hn;change Sem.run _ (execOp (Act.eval (Act.put (frm _ _ _ []) (some 18) (vs 5))) _) _=_;simp only[frm,h5];go_simp
  ·have h6:vs 6=pq b o:=hvs 6 (by decide) (by decide);replace hk:k≤0:=hk;obtain rfl:k=0:=by omega
   replace hS:LfD0 E N w l0 A0 c0_ b o (.slice A l.length c) w1:=hS;have c0:=hS.2.2.1;clear hS hvs hlow hk hn;change Sem.run _ (execOp (Act.eval (Act.put (frm _ _ _ []) (some 19) (vs 6))) _) _=_;simp only[frm,h6];go_simp
  ·have h7:vs 7=.slice A l.length c:=hvs 7 (by decide) (by decide);clear hS hvs hlow hk hn;change Sem.run _ (execOp (Act.eval (Act.put (frm _ _ _ []) (some 20) (vs 7))) _) _=_;simp only[frm,h7];go_simp
  ·have h8:vs 8=iv (l.length:Int):=hvs 8 (by decide) (by decide);clear hS hvs hlow hk hn;change Sem.run _ (execOp (Act.eval (Act.put (frm _ _ _ []) (some 21) (vs 8))) _) _=_;simp only[frm,h8];go_simp
  ·exact absurd (by decide) hn
  ·have h0:vs 0=pq gf 0:=hvs 0 (by decide) (by decide);clear hS hvs hlow hk hn;change Sem.run _ (execOp (Act.eval (Act.put (frm _ _ _ []) (some 13) (vs 0))) _) _=_;simp only[frm,h0];go_simp
  ·have h11:vs 11=pq gf 0:=hvs 11 (by decide) (by decide);clear hS hvs hlow hk hn;change Sem.run _ (execOp (Act.eval (Act.put (frm _ _ _ []) (some 24) (vs 11))) _) _=_;simp only[frm,h11];go_simp
  ·exact absurd (by decide) hn
 ·intro p hp o ho vs w1 hS hvs;rcases (show p=0 ∨ p=1 by change p < 2 at hp;omega) with rfl | rfl <;> cases ho
  ·replace hS:LfD0 E N w l0 A0 c0_ b o (.slice A l.length c) w1:=hS;have h4:vs 4=.slice A0 l0.length c0_:=hvs 4 (by decide) (by decide);have h9:vs 9=uv (l.length:Int):=hvs 9 (by decide) (by decide)
   show Made _ (LfD1 E N w l' A0 l0.length c0_) _
   change Made _ _ (Sem.run _ (execOp (Act.eval (Act.put (Act.put (frm _ _ _ []) (some 22) (vs 9)) (some 17) (vs 4))) _) _);simp only[frm,h4,h9];have cM:=qd5 (n:=(l.length:Int)) hS.2.1 (Nat.zero_le _) ⟨by omega,by omega⟩ (by have:=HL.o.1;have:=HL.o.2.1;omega);have hnl:∀ k,N k→k < w1.heap.size:=fun k hk=>Nat.lt_of_lt_of_le (HN.o.2.2.1 k hk) hS.2.2.2.size;rw[← HL.o.2.2] at cM;have HS1:=lh hS;have HNL:=lh hnl;clear hS hvs hnl;go_simp;exact HS1.o.call HN.o.1 HNL.o cM
  ·replace hS:LfD1 E N w l' A0 l0.length c0_ (vs 10) w1:=hS;have h12:vs 12=pq gf 0:=hvs 12 (by decide) (by decide)
   show Made _ (fun _=>LfD2 E N w l') _
   change Made _ _ (Sem.run _ (execOp (Act.eval (Act.put (Act.put (frm _ _ _ []) (some 25) (vs 12)) (some 23) (vs 10))) _) _)
   obtain⟨V,hV⟩:∃ V,V=vs 10:=⟨_,rfl⟩
   rw[← hV] at hS ⊢;obtain⟨A',c',rfl,_⟩:=qc1 hS.2.1;simp only[frm,h12,← hV];have c0:w1.cell? ⟨gf,0,none⟩=some (.slice A0 l0.length c0_):=by rw[HGF.o];exact hS.1.cell 0
   have f0:w1.frozen? ⟨gf,0,none⟩=false:=by rw[HGF.o];exact hS.1.free 0
   have HS1:=lh hS;clear hS hvs hV;go_simp;have h9:=HS1.o.store HN.o.2.1;rw[← HGF.o] at h9;exact qa7 (T:=fun _=>LfD2 E N w l') h9
 ·intro vs w5 hS hvs;replace hS:LfD2 E N w l' w5:=hS;change wpList _ _ _ [] (Act.put (Act.put (Act.put (Act.put (Act.put (Act.put (Act.put (Act.put (Act.put (Act.put (Act.put (Act.put (Act.put (Act.put (frm _ _ _ []) none (vs 13)) (some 25) (vs 12)) (some 24) (vs 11)) (some 23) (vs 10)) (some 22) (vs 9)) (some 21) (vs 8)) (some 20) (vs 7)) (some 19) (vs 6)) (some 18) (vs 5)) (some 17) (vs 4)) (some 16) (vs 3)) (some 15) (vs 2)) (some 14) (vs 1)) (some 13) (vs 0)) _;simp only[frm];clear hvs;generalize vs 0=z0;generalize vs 1=z1;generalize vs 2=z2;generalize vs 3=z3;generalize vs 4=z4;generalize vs 5=z5;generalize vs 6=z6;generalize vs 7=z7;generalize vs 8=z8;generalize vs 9=z9;generalize vs 10=z10;generalize vs 11=z11;generalize vs 12=z12;generalize vs 13=z13;have HF5:=lh (hS.fm HN.o.2.1 HN.o.2.2.1);have HK5:=lh hS.kp
  have x5:w5.cell? ⟨b,o,none⟩=some (.slice A l.length c):=by
   have:=((HH.o.1.kp hS.kp (fun h=>h HN.o.2.2.2)).cell (j:=0) rfl).1;rw[Nat.add_zero,HO.o] at this;exact this
  clear hS hwn
  go_wp2_with fail
  clear x5
  go_loopw [30] (fun ix wr=>∃ i:Nat,ix=iv (i:Int)∧i≤l.length∧Fm E N wr (.w (l'++(l.take i).flatMap qc8))∧Kp (fun k=>¬ N k) w wr) (fun ix _=>l.length - (intOf ix).toNat)
  case atStart=>exact⟨0,rfl,Nat.zero_le _,by rw[List.take_zero,List.flatMap_nil,List.append_nil];exact HF5.o,HK5.o⟩
  case round =>
   obtain⟨i,rfl,hi,hFi,hki⟩:=hrel;have hHi:=HH.o.1.kp hki (fun h=>h HN.o.2.2.2)
   have xi:wr.cell? ⟨b,o,none⟩=some (.slice A l.length c):=by
    have:=(hHi.cell (j:=0) rfl).1;rw[Nat.add_zero,HO.o] at this;exact this
   by_cases hlt2:i < l.length
   ·obtain⟨be,oe,hA,hNe,hee⟩:=HH.o.2.2.1.resolve_left (by omega);have hxi:l[i]?=some l[i]:=List.getElem?_eq_getElem hlt2;obtain⟨r,hrl,hRx,hcr⟩:=hee i _ hxi
    obtain⟨x,hxe⟩:∃ x,x=l[i]:=⟨_,rfl⟩
    rw[← hxe] at hxi hRx;have hle:=qo4 qc8 hxi;have htk:=qi4 qc8 hxi
    have hHe:Hd E N 29 be (List.replicate (oe+i*4) (bf)) [] true wr r:=by
     unfold Hd;rw[if_pos rfl];refine⟨hNe,fun j v hv=>?_⟩;obtain⟨g1,g2⟩:=hcr j v hv;rw[List.length_replicate];refine⟨hki.cell g1 (fun h=>h hNe),?_⟩;rw[qd6 (hki.block be (qa4 g1) (fun h=>h hNe))];exact g2
    obtain⟨li,hli⟩:∃ li,li=l'++(l.take i).flatMap qc8:=⟨_,rfl⟩
    rw[← hli] at hFi;have hlen:li.length=l0.length+(qd8 (l.length:Int)).length+((l.take i).flatMap qc8).length:=by rw[hli,HL.o.2.2,List.length_append,List.length_append]
    have cM:=qp4 (s:=.w li) (x:=x) (t:=29) (pre:=List.replicate (oe+i*4) (bf)) (post:=[]) hFi (ltR_rk.wr hRx hki) hHe (List.length_replicate ..) (fun h=>by cases h) (by decide) (HH.o.2.2.2 x (List.mem_of_getElem? hxi)) (show li.length+(qc8 x).length≤2147483648 by have:=HL.o.1;omega);rw[← HGF.o] at cM;have HI:=lh (And.intro hki (And.intro htk hli));subst hA;have hic:i < c:=by omega
    clear hHi hxe hle htk hHe hlen hNe hee hrl hRx hcr hxi hli hFi hki
    go_wp2_with fail
    refine cM.mono ?_;rintro e w2 ⟨rfl,hF2,_,hfr2⟩;have HF2:=lh hF2
    have hfr3:Kp (fun k=>¬ N k) wr w2:=by
     have:=hfr2;unfold Fr at this;rw[show(Fs.w li).md=true from rfl,qe4] at this;exact this
    have HK2:=lh (HI.o.1.trans hfr3 fun _ _ h=>h);clear cM hF2 hfr2 hfr3 xi
    go_wp2_with fail
    go_roundw
    case rel=>exact⟨i+1,by go_num,hlt2,by rw[HI.o.2.1,← List.append_assoc,← HI.o.2.2];exact HF2.o,HK2.o⟩
    case measure=>simp[intOf];omega
   ·have hil:i=l.length:=by omega
    rw[hil,List.take_length] at hFi;have HE:=lh (And.intro hFi (And.intro hki hHi));clear hFi hki hHi hi hil
    go_wp2_with fail
    try simp only[Exit.inBlock,Exit.then]
    refine bodyPost_ret (results_none rfl _ _ _) rfl ?_;refine⟨rfl,?_,⟨A,c,HH.o.2.1.wr ltR_rk HE.o.2.1,HE.o.2.2⟩,?_⟩
    ·have:=HE.o.1;rw[HL.o.2.2,List.append_assoc] at this;exact this
    ·unfold Fr;rw[qe4];exact HE.o.2.1
end
theorem i_lsLt:(Tryz.prog.info? 29).map (fun i=>(i.zero,i.size,i.bytes))=some (some (.agg #[iv 0,iv 0,.string ⟨#[]⟩,sn]),4,56):=by kernel_rfl
section
variable {E:Env} {N:Nat→Prop} {t:TypeId} {b o c:Nat} {A:Option Addr} {pre post:List Value} {w:World} {rd:Rd} {s:Fs} {l:List Lt}
theorem lsLt_r (hF:Fm E N w (.r rd)) (hH:Hd E N t b pre post false w [sn]) (ho:pre.length=o) (ht0:t≠26):Calls Tryz.prog 115 #[pq E.gf 0,pq b o,.func (.func 53) #[pq E.gf 0] #[]] w (LsP E N t b pre post (.r (rd.list 1024 qf2).2) false LtR 29 4 (rd.list 1024 qf2).1 w):=by
 have hbt:¬ (fun t=>t=26) t:=ht0;have hB:=hH;unfold Hd at hB;rw[if_neg (by simp)] at hB;have HF:=hF;obtain⟨hbk,hr,hgg,hbb⟩:=HF;obtain⟨csr,hcsr⟩:=hr.bkq;have HW:Hid (PW E b w):=lh ⟨hB.1.lt,hcsr.lt,hbk.lt,hbb,hB.2.1,hB.2.2.1,hB.2.2.2⟩;have hcl:=Rd.count_len (most:=1024) hr.b8;have hcm:=Rd.count_le (r:=rd) (most:=1024) (by decide);have hld:rd.list 1024 qf2=rep qf2 (rd.count 1024).2 (rd.count 1024).1.toNat:=rfl;rw[hld];have cC:=qm2 hr hbb (show(0:Int)≤1024 by decide) (by decide)
 obtain⟨⟨n',r1⟩,hq⟩:∃ p,p=rd.count 1024:=⟨_,rfl⟩
 rw[← hq] at cC hcl hcm ⊢;dsimp only at cC hcl hcm ⊢;obtain⟨n,rfl⟩:=Int.eq_ofNat_of_zero_le hcl.1;rw[Int.toNat_natCast];have hn:n≤1024:=by omega
 obtain⟨gf,hgf⟩:∃ gf,gf=E.gf:=⟨_,rfl⟩
 obtain⟨g,hg⟩:∃ g,g=E.g:=⟨_,rfl⟩
 have c1:w.cell? ⟨gf,1,none⟩=some (pq g 0):=by rw[hgf,hg];exact hbk.cell 1
 rw[← hgf];rw[← hg] at cC;have HGF:=lh (And.intro hgf hg);have H0:=lh (And.intro hF (And.intro hB.1 (And.intro hbt ho)));clear hH hF hB hbk hr hgg hbb hcsr hcl hcm hld hq hgf hg hbt ho
 go_enter Tryz.func115,Tryz.ntmps115
 go_wp2_with fail
 refine cC.mono ?_;rintro e wc ⟨rfl,hrc,hkc⟩
 have hPE:PE E N t b pre post LtR 29 4 w (.r (rep qf2 r1 0).2) (sn) (sn) 0 [] (rep qf2 r1 0).1 wc:=by
  have hk:=hkc;rw[HGF.o.2] at hk hrc;refine⟨⟨H0.o.1.1.kp hk H0.o.1.2.2.1,hrc,H0.o.1.2.2.1,Nat.lt_of_lt_of_le H0.o.1.2.2.2 hk.size⟩,H0.o.2.1.kp hk HW.o.n2,World.ownsRow_nil _ _ _ _,Els.nil _ _ _,hk.mono fun _ _ h=>.inl h⟩
 have HPE:=lh hPE;clear cC hrc hkc hPE c1
 go_wp2_with fail
 go_loopw [46] (fun ix wr=>∃ (i:Nat) (A:Option Addr) (c:Nat) (xs:List Value),ix=iv (i:Int)∧i≤n∧PE E N t b pre post LtR 29 4 w (.r (rep qf2 r1 i).2) (.slice A i c) (.slice A i c) i xs (rep qf2 r1 i).1 wr) (fun ix _=>n - (intOf ix).toNat)
 case atStart=>exact⟨0,none,0,[],rfl,Nat.zero_le _,HPE.o⟩
 case round =>
  clear HPE;obtain⟨i,A,c,xs,rfl,hi,hpe⟩:=hrel;have HP:=lh hpe
  by_cases hlt:i < n
  ·obtain⟨ri,hri⟩:∃ ri,ri=(rep qf2 r1 i).2:=⟨_,rfl⟩
   rw[← hri] at hpe HP
   obtain⟨w1,hw1⟩:∃ w1,w1=wr.alloc (.cells #[iv 0,iv 0,.string ⟨#[]⟩,sn] 29):=⟨_,rfl⟩
   obtain⟨xb,hxb⟩:∃ xb,xb=wr.heap.size:=⟨_,rfl⟩
   have hb1:bw wr w1:=by rw[hw1];exact(Below.refl _ _).alloc (Nat.le_refl _) _
   have hx1:Bk w1 xb 29 #[iv 0,iv 0,.string ⟨#[]⟩,sn]:=by rw[hw1,hxb];exact Bk.new _ _ _
   have hwz:=hpe.kp.size
   have hHx:Hd E N 29 xb [] [] false w1 [iv 0,iv 0,.string ⟨#[]⟩,sn]:=by
    unfold Hd;rw[if_neg (by simp)];refine⟨hx1,?_⟩;have:=HW.o;exact⟨by have:=this.lf;omega,by have:=this.lg;omega,by have:=this.lbb;omega⟩
   have cM:=qp4 (s:=.r ri) (x:=Lt.zero) (r:=[iv 0,iv 0,.string ⟨#[]⟩,sn]) (o:=0) (hpe.fm.below hb1) (⟨none,0,rfl,LsR.nil⟩) hHx rfl (fun _=>⟨rfl,rfl⟩) (by decide) (by refine⟨?_,?_,?_,?_,?_⟩ <;> simp[Lt.zero,I64,sP,ByteArray.size]) trivial;have hs:stp qc8 qf2 (.r ri) Lt.zero=(.r (qf2 ri).2,(qf2 ri).1):=rfl;rw[hs] at cM;dsimp only at cM
   obtain⟨⟨x',r2⟩,hx'⟩:∃ p,p=qf2 ri:=⟨_,rfl⟩
   rw[← hx'] at cM;dsimp only at cM;rw[← HGF.o.1] at cM;have HX:=lh (And.intro hx' (And.intro hri (And.intro hb1 (And.intro hx1 hxb))));clear hpe hx' hri hb1 hx1 hHx hs hwz
   go_upto_region 10 with fail
   rw[← hw1,← hxb];clear hw1 hxb
   go_wp2_with fail
   refine cM.mono ?_;rintro e w2 ⟨rfl,hF2,⟨rx,hrx,hHx2⟩,hfr2⟩
   have hpd:PD E N t b pre post LtR 29 4 w (.r r2) (.slice A i c) (.slice A i c) i xs (rep qf2 r1 i).1 xb rx x' w2:=by
    have e:=HX.o.2.2.2.2;have h1:=HX.o.2.2.2.1;subst e;exact PE.read ltR_rk (by show ¬ (_:TypeId)=_;decide) (by show ¬ (_:TypeId)=_;decide) HW.o HP.o HX.o.2.2.1 (rx:=[iv 0,iv 0,.string ⟨#[]⟩,sn]) h1 hF2 hHx2 hrx hfr2
   clear cM hF2 hHx2 hfr2;obtain⟨A9,c9,rfl,hl9⟩:=hrx;have HD:=lh hpd;clear hpd
   try clear hrx
   try clear hl9
   obtain⟨i5,hi5,hz0,hz1,hz2⟩:=info_parts i_lsLt;have HIN:=lh (And.intro hi5 (And.intro hz0 (And.intro hz1 hz2)));clear hi5 hz0 hz1 hz2
   obtain⟨lr,hlr⟩:∃ lr,lr=(rep qf2 r1 i).1:=⟨_,rfl⟩
   rw[← hlr] at HD;have HLR:=lh hlr;clear hlr
   go_wp2_with fail
   refine qc9 9 (fun i=>([[],[],[1],[2],[],[4],[3,5],[0],[6,7]]:List (List Nat)).getD i []) [5,6,8] (fun i=>([2,1,1,1,0,0,0,2,0]:List Nat).getD i 0) (fun zz=>([pq b o,pq b o,pq b o,.slice A i c,.agg #[iv x'.idm,iv x'.ids,Value.string x'.meth,Value.slice A9 x'.args.length c9],bf,bf,pq b o,bf]:List Value).getD zz (bf)) (PqS (PD E N t b pre post LtR 29 4 w (.r r2) (.slice A i c) (.slice A i c) i xs lr xb [iv x'.idm,iv x'.ids,Value.string x'.meth,Value.slice A9 x'.args.length c9] x') (fun v w1=>PD E N t b pre post LtR 29 4 w (.r r2) (.slice A i c) (.slice A i c) i xs lr xb [iv x'.idm,iv x'.ids,Value.string x'.meth,Value.slice A9 x'.args.length c9] x' w1∧∃ kk,v=.slice (some ⟨kk,0,none⟩) 1 1∧Sl w1 4 (some ⟨kk,0,none⟩) 1 [iv x'.idm,iv x'.ids,Value.string x'.meth,Value.slice A9 x'.args.length c9]) (fun v w1=>∃ A' c',v=.slice A' (i+1) c'∧PE E N t b pre post LtR 29 4 w (.r r2) (.slice A i c) (.slice A' (i+1) c') (i+1) (xs++[iv x'.idm,iv x'.ids,Value.string x'.meth,Value.slice A9 x'.args.length c9]) (lr++[x']) w1) (fun w1=>∃ A' c',PE E N t b pre post LtR 29 4 w (.r r2) (.slice A' (i+1) c') (.slice A' (i+1) c') (i+1) (xs++[iv x'.idm,iv x'.ids,Value.string x'.meth,Value.slice A9 x'.args.length c9]) (lr++[x']) w1)) rfl (by kernel_rfl) (by rfl) (by kernel_rfl) ?_ ?_ ?_ ?_
   ·exact HD.o.drew ltR_rk
   ·intro zi hzi hn zo ho k vs w1 hk hlow hS hvs;rcases (show zi=0 ∨ zi=1 ∨ zi=2 ∨ zi=3 ∨ zi=4 ∨ zi=5 ∨ zi=6 ∨ zi=7 ∨ zi=8 by omega) with rfl | rfl | rfl | rfl | rfl | rfl | rfl | rfl | rfl <;> cases ho
    ·clear hS hvs hlow hk hn;change Sem.run _ (execOp (Act.eval (frm _ _ _ [])) _) _=_;simp only[frm];go_simp
    ·clear hS hvs hlow hk hn;change Sem.run _ (execOp (Act.eval (frm _ _ _ [])) _) _=_;simp only[frm];go_simp
    ·have h1:vs 1=pq b o:=hvs 1 (by decide) (by decide);clear hS hvs hlow hk hn;change Sem.run _ (execOp (Act.eval (Act.put (frm _ _ _ []) (some 51) (vs 1))) _) _=_;simp only[frm,h1];go_simp
    ·have h2:vs 2=pq b o:=hvs 2 (by decide) (by decide);replace hk:k≤1:=hk
     have hpl:Bk w1 b t (pre++[Value.slice A i c]++post).toArray:=by
      rcases (show k=0 ∨ k=1 by omega) with rfl | rfl
      ·exact(show PD E N t b pre post LtR 29 4 w (.r r2) (.slice A i c) (.slice A i c) i xs lr xb [iv x'.idm,iv x'.ids,Value.string x'.meth,Value.slice A9 x'.args.length c9] x' w1 from hS).pl
      ·exact(show(fun v w1=>PD E N t b pre post LtR 29 4 w (.r r2) (.slice A i c) (.slice A i c) i xs lr xb [iv x'.idm,iv x'.ids,Value.string x'.meth,Value.slice A9 x'.args.length c9] x' w1∧∃ kk,v=.slice (some ⟨kk,0,none⟩) 1 1∧Sl w1 4 (some ⟨kk,0,none⟩) 1 [iv x'.idm,iv x'.ids,Value.string x'.meth,Value.slice A9 x'.args.length c9]) (vs 5) w1 from hS).1.pl
     have c0:w1.cell? ⟨b,o,none⟩=some (.slice A i c):=by rw[hpl.cell,← H0.o.2.2.2];simp
     clear hpl;clear hS hvs hlow hk hn;change Sem.run _ (execOp (Act.eval (Act.put (frm _ _ _ []) (some 52) (vs 2))) _) _=_;simp only[frm,h2];go_simp
    ·replace hk:k≤0:=hk;obtain rfl:k=0:=by omega
     replace hS:PD E N t b pre post LtR 29 4 w (.r r2) (.slice A i c) (.slice A i c) i xs lr xb [iv x'.idm,iv x'.ids,Value.string x'.meth,Value.slice A9 x'.args.length c9] x' w1:=hS;have k0:cl w1 xb 0 (iv x'.idm):=hS.bx.cell 0;have k1:cl w1 xb 1 (iv x'.ids):=hS.bx.cell 1;have k2:cl w1 xb 2 (Value.string x'.meth):=hS.bx.cell 2;have k3:cl w1 xb 3 (Value.slice A9 x'.args.length c9):=hS.bx.cell 3;clear hS hvs hlow hk hn;change Sem.run _ (execOp (Act.eval (frm _ _ _ [])) _) _=_;simp only[frm];go_simp
    ·exact absurd (by decide) hn
    ·exact absurd (by decide) hn
    ·have h0:vs 0=pq b o:=hvs 0 (by decide) (by decide);clear hS hvs hlow hk hn;change Sem.run _ (execOp (Act.eval (Act.put (frm _ _ _ []) (some 50) (vs 0))) _) _=_;simp only[frm,h0];go_simp
    ·exact absurd (by decide) hn
   ·intro p hp o ho vs w1 hS hvs;rcases (show p=0 ∨ p=1 ∨ p=2 by change p < 3 at hp;omega) with rfl | rfl | rfl <;> cases ho
    ·replace hS:PD E N t b pre post LtR 29 4 w (.r r2) (.slice A i c) (.slice A i c) i xs lr xb [iv x'.idm,iv x'.ids,Value.string x'.meth,Value.slice A9 x'.args.length c9] x' w1:=hS;have h4:vs 4=.agg #[iv x'.idm,iv x'.ids,Value.string x'.meth,Value.slice A9 x'.args.length c9]:=hvs 4 (by decide) (by decide)
     show Made _ (fun v w1=>PD E N t b pre post LtR 29 4 w (.r r2) (.slice A i c) (.slice A i c) i xs lr xb [iv x'.idm,iv x'.ids,Value.string x'.meth,Value.slice A9 x'.args.length c9] x' w1∧∃ kk,v=.slice (some ⟨kk,0,none⟩) 1 1∧Sl w1 4 (some ⟨kk,0,none⟩) 1 [iv x'.idm,iv x'.ids,Value.string x'.meth,Value.slice A9 x'.args.length c9]) _
     change Made _ _ (Sem.run _ (execOp (Act.eval (Act.put (frm _ _ _ []) (some 54) (vs 4))) _) _);simp only[frm,h4];have HS1:=lh hS;clear hS hvs h4;go_simp;have hb:bw w1 (w1.alloc (.cells #[iv x'.idm,iv x'.ids,Value.string x'.meth,Value.slice A9 x'.args.length c9] 29)):=(Below.refl _ _).alloc (Nat.le_refl _) _;exact qa5 ⟨HS1.o.below ltR_rk hb,_,rfl,Sl.one (w:=w1) 29 #[iv x'.idm,iv x'.ids,Value.string x'.meth,Value.slice A9 x'.args.length c9] (by simp)⟩
    ·replace hS:(fun v w1=>PD E N t b pre post LtR 29 4 w (.r r2) (.slice A i c) (.slice A i c) i xs lr xb [iv x'.idm,iv x'.ids,Value.string x'.meth,Value.slice A9 x'.args.length c9] x' w1∧∃ kk,v=.slice (some ⟨kk,0,none⟩) 1 1∧Sl w1 4 (some ⟨kk,0,none⟩) 1 [iv x'.idm,iv x'.ids,Value.string x'.meth,Value.slice A9 x'.args.length c9]) (vs 5) w1:=hS;have h3:vs 3=.slice A i c:=hvs 3 (by decide) (by decide)
     show Made _ (fun v w1=>∃ A' c',v=.slice A' (i+1) c'∧PE E N t b pre post LtR 29 4 w (.r r2) (.slice A i c) (.slice A' (i+1) c') (i+1) (xs++[iv x'.idm,iv x'.ids,Value.string x'.meth,Value.slice A9 x'.args.length c9]) (lr++[x']) w1) _
     change Made _ _ (Sem.run _ (execOp (Act.eval (Act.put (Act.put (frm _ _ _ []) (some 55) (vs 5)) (some 53) (vs 3))) _) _);obtain⟨hpd,kk,hv5,hsl⟩:=hS;simp only[frm,h3,hv5];have HS1:=lh hpd;have HSS:=lh hsl;have hsz:w.heap.size≤w1.heap.size:=hpd.kp.size;clear hvs hpd hv5 hsl h3;refine qg9 (.tmp 53) (.tmp 55) 30 rfl Tryz.underlying30 HIN.o.1 HIN.o.2.1 HIN.o.2.2.1 HIN.o.2.2.2 rfl (by decide) rfl HS1.o.row rfl HSS.o (by simp[Value.oneCell']) (by unfold maxLen;omega) (by omega) hsz ?_;intro v' w' ho' hg' h4';obtain⟨A',c',rfl,_⟩:=qc1 ho';exact⟨A',c',rfl,HS1.o.grow ltR_rk (by show ¬ (_:TypeId)=_;decide) HW.o rfl hg' ho'⟩
    ·replace hS:(fun v w1=>∃ A' c',v=.slice A' (i+1) c'∧PE E N t b pre post LtR 29 4 w (.r r2) (.slice A i c) (.slice A' (i+1) c') (i+1) (xs++[iv x'.idm,iv x'.ids,Value.string x'.meth,Value.slice A9 x'.args.length c9]) (lr++[x']) w1) (vs 6) w1:=hS;have h7:vs 7=pq b o:=hvs 7 (by decide) (by decide)
     show Made _ (fun _=>(fun w1=>∃ A' c',PE E N t b pre post LtR 29 4 w (.r r2) (.slice A' (i+1) c') (.slice A' (i+1) c') (i+1) (xs++[iv x'.idm,iv x'.ids,Value.string x'.meth,Value.slice A9 x'.args.length c9]) (lr++[x']) w1)) _
     change Made _ _ (Sem.run _ (execOp (Act.eval (Act.put (Act.put (frm _ _ _ []) (some 57) (vs 7)) (some 56) (vs 6))) _) _);obtain⟨A',c',hv6,hpe⟩:=hS;simp only[frm,h7,hv6];have HS1:=lh hpe;have c0:w1.cell? ⟨b,o,none⟩=some (.slice A i c):=by rw[hpe.pl.cell,← H0.o.2.2.2];simp
     have f0:w1.frozen? ⟨b,o,none⟩=false:=hpe.pl.free o;clear hvs hpe hv6 h7;go_simp;have h9:=HS1.o.store (V':=.slice A' (i+1) c') ltR_rk H0.o.2.2.1 HW.o;rw[H0.o.2.2.2] at h9;exact qa7 (T:=fun _=>fun w1=>∃ A' c',PE E N t b pre post LtR 29 4 w (.r r2) (.slice A' (i+1) c') (.slice A' (i+1) c') (i+1) (xs++[iv x'.idm,iv x'.ids,Value.string x'.meth,Value.slice A9 x'.args.length c9]) (lr++[x']) w1) ⟨A',c',h9⟩
   ·intro vs w5 hS hvs;replace hS:(fun w1=>∃ A' c',PE E N t b pre post LtR 29 4 w (.r r2) (.slice A' (i+1) c') (.slice A' (i+1) c') (i+1) (xs++[iv x'.idm,iv x'.ids,Value.string x'.meth,Value.slice A9 x'.args.length c9]) (lr++[x']) w1) w5:=hS;change wpList _ _ _ [] (Act.put (Act.put (Act.put (Act.put (Act.put (Act.put (Act.put (Act.put (Act.put (frm _ _ _ []) none (vs 8)) (some 57) (vs 7)) (some 56) (vs 6)) (some 55) (vs 5)) (some 54) (vs 4)) (some 53) (vs 3)) (some 52) (vs 2)) (some 51) (vs 1)) (some 50) (vs 0)) _;simp only[frm];clear hvs;generalize vs 0=z0;generalize vs 1=z1;generalize vs 2=z2;generalize vs 3=z3;generalize vs 4=z4;generalize vs 5=z5;generalize vs 6=z6;generalize vs 7=z7;generalize vs 8=z8;obtain⟨A',c',hpe⟩:=hS;have HP5:=lh hpe;clear hpe
    go_wp2_with fail
    go_roundw
    case rel =>
     have e1:rep qf2 r1 (i+1)=(lr++[x'],r2):=by
      have:rep qf2 r1 (i+1)=((rep qf2 r1 i).1++[(qf2 (rep qf2 r1 i).2).1],(qf2 (rep qf2 r1 i).2).2):=rfl;rw[this,← HX.o.2.1,← HX.o.1,← HLR.o]
     exact⟨i+1,A',c',_,by go_num,hlt,by rw[e1];exact HP5.o⟩
    case measure=>simp[intOf];omega
  ·have hin:i=n:=by omega
   rw[hin] at hpe;clear hpe;have hpe:=HP.o;rw[hin] at hpe;have HE:=lh hpe;clear hpe hin HP
   go_wp2_with fail
   go_end0
   refine⟨rfl,HE.o.fm,⟨A,c,?_,?_⟩,?_⟩
   ·unfold LsR;rw[if_neg (by simp),qh8];exact⟨xs,qo0 HE.o.row (Nat.zero_le _),HE.o.els⟩
   ·unfold Hd;rw[if_neg (by simp),qh8];exact⟨HE.o.pl,HW.o.n1,HW.o.n2,HW.o.n3⟩
   ·unfold Fr;rw[qe5];exact HE.o.kp
theorem lsLt_any (hF:Fm E N w s) (hL:LsR LtR 29 4 s.md N w A c l) (hH:Hd E N t b pre post s.md w [.slice A l.length c]) (ho:pre.length=o) (hz:s.md=false→A=none∧c=0∧l=[]) (ht0:t≠26) (hx:∀ x∈l,ltP x) (hf:s.fit (qc6 qc8 l).length):Calls Tryz.prog 115 #[pq E.gf 0,pq b o,.func (.func 53) #[pq E.gf 0] #[]] w (LsP E N t b pre post (stp (qc6 qc8) (Rd.list 1024 qf2) s l).1 s.md LtR 29 4 (stp (qc6 qc8) (Rd.list 1024 qf2) s l).2 w):=by
 cases s with
 | w l0=>exact lsLt_w hF hL hH ho hx hf
 | r rd =>
  obtain⟨rfl,rfl,rfl⟩:=hz rfl;exact lsLt_r hF hH ho ht0
end
section
variable {E:Env} {N:Nat→Prop} {t:TypeId} {b o c:Nat} {A:Option Addr} {pre post:List Value} {w:World} {l0:List Int} {rd:Rd} {s:Fs} {l:List Wa}
theorem lsWa_w (hF:Fm E N w (.w l0)) (hL:LsR (qa6 waC) 65 12 true N w A c l) (hH:Hd E N t b pre post true w [.slice A l.length c]) (ho:pre.length=o) (hx:∀ x∈l,waP x) (hl:l0.length+(qc6 qe1 l).length≤2147483648):Calls Tryz.prog 116 #[pq E.gf 0,pq b o,.func (.func 117) #[pq E.gf 0] #[]] w (LsP E N t b pre post (.w (l0++qc6 qe1 l)) true (qa6 waC) 65 12 l w):=by
 have hLL:=hL;unfold LsR at hLL;rw[if_pos rfl] at hLL;obtain⟨hlc,hln,hel⟩:=hLL;obtain⟨A0,c0_,hbk,hw,hN,hgN,hNl⟩:=hF;have hc:=(hH.cell (j:=0) rfl).1;have hb:N b:=by unfold Hd at hH;rw[if_pos rfl] at hH;exact hH.1
 rw[Nat.add_zero,ho] at hc
 obtain⟨gf,hgf⟩:∃ gf,gf=E.gf:=⟨_,rfl⟩
 have c0:w.cell? ⟨gf,0,none⟩=some (.slice A0 l0.length c0_):=by rw[hgf];exact hbk.cell 0
 have c1:w.cell? ⟨gf,1,none⟩=some (.pointer none):=by rw[hgf];exact hbk.cell 1
 have hlt:gf < w.heap.size:=by rw[hgf];exact hbk.lt
 have HS:Hid (LfD0 E N w l0 A0 c0_ b o (.slice A l.length c) w):=lh ⟨hbk,hw,hc,Kp.refl _ _⟩;have HH:=lh (And.intro hH (And.intro hL (And.intro hel hx)));have HN:=lh (And.intro hN (And.intro hgN (And.intro hNl hb)));have hwn:IntKind.u64.wrap (l.length:Int)=(l.length:Int):=by rw[IntKind.wrap_u64];omega
 have hul:(qd8 (l.length:Int)).length≤(qc6 qe1 l).length:=by unfold qc6;rw[List.length_append];omega
 obtain⟨l',hl'⟩:∃ l',l'=l0++qd8 (l.length:Int):=⟨_,rfl⟩
 rw[← hgf];have HGF:=lh hgf;have HL:=lh (And.intro hl (And.intro hul hl'));have HO:=lh ho;clear hbk hw hN hgN hNl hH hc hb hl' hgf hL hel hx hul hl ho
 go_enter Tryz.func116,Tryz.ntmps116
 go_upto_region 1 with fail
 clear c0 c1;refine qc9 14 (fun i=>([[],[],[1],[2],[3],[],[5],[6],[7],[8],[4,9],[0],[11],[10,12]]:List (List Nat)).getD i []) [10,13] (fun i=>([1,0,0,0,0,0,0,0,0,0,0,1,1,0]:List Nat).getD i 0) (fun zz=>([pq gf 0,pq gf 0,pq gf 0,pq gf 0,.slice A0 l0.length c0_,pq b o,pq b o,.slice A l.length c,iv (l.length:Int),uv (l.length:Int),bf,pq gf 0,pq gf 0,bf]:List Value).getD zz (bf)) (LfS (LfD0 E N w l0 A0 c0_ b o (.slice A l.length c)) (LfD1 E N w l' A0 l0.length c0_) (LfD2 E N w l')) rfl (by kernel_rfl) (by rfl) (by kernel_rfl) ?_ ?_ ?_ ?_
 ·exact⟨HS.o.1.kp ((Kp.refl (fun _=>False) w).drew) (fun h=>h),ql0 HS.o.2.1 ((Kp.refl (fun _=>False) w).drew) (fun _ _ h=>h),HS.o.2.2.1,HS.o.2.2.2.drew⟩
 ·intro zi hzi hn zo ho k vs w1 hk hlow hS hvs;rcases (show zi=0 ∨ zi=1 ∨ zi=2 ∨ zi=3 ∨ zi=4 ∨ zi=5 ∨ zi=6 ∨ zi=7 ∨ zi=8 ∨ zi=9 ∨ zi=10 ∨ zi=11 ∨ zi=12 ∨ zi=13 by omega) with rfl | rfl | rfl | rfl | rfl | rfl | rfl | rfl | rfl | rfl | rfl | rfl | rfl | rfl <;> cases ho
  ·clear hS hvs hlow hk hn;change Sem.run _ (execOp (Act.eval (frm _ _ _ [])) _) _=_;simp only[frm];go_simp
  ·clear hS hvs hlow hk hn;change Sem.run _ (execOp (Act.eval (frm _ _ _ [])) _) _=_;simp only[frm];go_simp
  ·have h1:vs 1=pq gf 0:=hvs 1 (by decide) (by decide);clear hS hvs hlow hk hn;change Sem.run _ (execOp (Act.eval (Act.put (frm _ _ _ []) (some 14) (vs 1))) _) _=_;simp only[frm,h1];go_simp
  ·have h2:vs 2=pq gf 0:=hvs 2 (by decide) (by decide);clear hS hvs hlow hk hn;change Sem.run _ (execOp (Act.eval (Act.put (frm _ _ _ []) (some 15) (vs 2))) _) _=_;simp only[frm,h2];go_simp
  ·have h3:vs 3=pq gf 0:=hvs 3 (by decide) (by decide);replace hk:k≤0:=hk;obtain rfl:k=0:=by omega
   replace hS:LfD0 E N w l0 A0 c0_ b o (.slice A l.length c) w1:=hS;have c0:w1.cell? ⟨gf,0,none⟩=some (.slice A0 l0.length c0_):=by rw[HGF.o];exact hS.1.cell 0
   clear hS hvs hlow hk hn;change Sem.run _ (execOp (Act.eval (Act.put (frm _ _ _ []) (some 16) (vs 3))) _) _=_;simp only[frm,h3];go_simp
  ·clear hS hvs hlow hk hn;change Sem.run _ (execOp (Act.eval (frm _ _ _ [])) _) _=_;simp only[frm];go_simp
  ·have h5:vs 5=pq b o:=hvs 5 (by decide) (by decide);clear hS hvs hlow hk hn;change Sem.run _ (execOp (Act.eval (Act.put (frm _ _ _ []) (some 18) (vs 5))) _) _=_;simp only[frm,h5];go_simp
  ·have h6:vs 6=pq b o:=hvs 6 (by decide) (by decide);replace hk:k≤0:=hk;obtain rfl:k=0:=by omega
   replace hS:LfD0 E N w l0 A0 c0_ b o (.slice A l.length c) w1:=hS;have c0:=hS.2.2.1;clear hS hvs hlow hk hn;change Sem.run _ (execOp (Act.eval (Act.put (frm _ _ _ []) (some 19) (vs 6))) _) _=_;simp only[frm,h6];go_simp
  ·have h7:vs 7=.slice A l.length c:=hvs 7 (by decide) (by decide);clear hS hvs hlow hk hn;change Sem.run _ (execOp (Act.eval (Act.put (frm _ _ _ []) (some 20) (vs 7))) _) _=_;simp only[frm,h7];go_simp
  ·have h8:vs 8=iv (l.length:Int):=hvs 8 (by decide) (by decide);clear hS hvs hlow hk hn;change Sem.run _ (execOp (Act.eval (Act.put (frm _ _ _ []) (some 21) (vs 8))) _) _=_;simp only[frm,h8];go_simp
  ·exact absurd (by decide) hn
  ·have h0:vs 0=pq gf 0:=hvs 0 (by decide) (by decide);clear hS hvs hlow hk hn;change Sem.run _ (execOp (Act.eval (Act.put (frm _ _ _ []) (some 13) (vs 0))) _) _=_;simp only[frm,h0];go_simp
  ·have h11:vs 11=pq gf 0:=hvs 11 (by decide) (by decide);clear hS hvs hlow hk hn;change Sem.run _ (execOp (Act.eval (Act.put (frm _ _ _ []) (some 24) (vs 11))) _) _=_;simp only[frm,h11];go_simp
  ·exact absurd (by decide) hn
 ·intro p hp o ho vs w1 hS hvs;rcases (show p=0 ∨ p=1 by change p < 2 at hp;omega) with rfl | rfl <;> cases ho
  ·replace hS:LfD0 E N w l0 A0 c0_ b o (.slice A l.length c) w1:=hS;have h4:vs 4=.slice A0 l0.length c0_:=hvs 4 (by decide) (by decide);have h9:vs 9=uv (l.length:Int):=hvs 9 (by decide) (by decide)
   show Made _ (LfD1 E N w l' A0 l0.length c0_) _
   change Made _ _ (Sem.run _ (execOp (Act.eval (Act.put (Act.put (frm _ _ _ []) (some 22) (vs 9)) (some 17) (vs 4))) _) _);simp only[frm,h4,h9];have cM:=qd5 (n:=(l.length:Int)) hS.2.1 (Nat.zero_le _) ⟨by omega,by omega⟩ (by have:=HL.o.1;have:=HL.o.2.1;omega);have hnl:∀ k,N k→k < w1.heap.size:=fun k hk=>Nat.lt_of_lt_of_le (HN.o.2.2.1 k hk) hS.2.2.2.size;rw[← HL.o.2.2] at cM;have HS1:=lh hS;have HNL:=lh hnl;clear hS hvs hnl;go_simp;exact HS1.o.call HN.o.1 HNL.o cM
  ·replace hS:LfD1 E N w l' A0 l0.length c0_ (vs 10) w1:=hS;have h12:vs 12=pq gf 0:=hvs 12 (by decide) (by decide)
   show Made _ (fun _=>LfD2 E N w l') _
   change Made _ _ (Sem.run _ (execOp (Act.eval (Act.put (Act.put (frm _ _ _ []) (some 25) (vs 12)) (some 23) (vs 10))) _) _)
   obtain⟨V,hV⟩:∃ V,V=vs 10:=⟨_,rfl⟩
   rw[← hV] at hS ⊢;obtain⟨A',c',rfl,_⟩:=qc1 hS.2.1;simp only[frm,h12,← hV];have c0:w1.cell? ⟨gf,0,none⟩=some (.slice A0 l0.length c0_):=by rw[HGF.o];exact hS.1.cell 0
   have f0:w1.frozen? ⟨gf,0,none⟩=false:=by rw[HGF.o];exact hS.1.free 0
   have HS1:=lh hS;clear hS hvs hV;go_simp;have h9:=HS1.o.store HN.o.2.1;rw[← HGF.o] at h9;exact qa7 (T:=fun _=>LfD2 E N w l') h9
 ·intro vs w5 hS hvs;replace hS:LfD2 E N w l' w5:=hS;change wpList _ _ _ [] (Act.put (Act.put (Act.put (Act.put (Act.put (Act.put (Act.put (Act.put (Act.put (Act.put (Act.put (Act.put (Act.put (Act.put (frm _ _ _ []) none (vs 13)) (some 25) (vs 12)) (some 24) (vs 11)) (some 23) (vs 10)) (some 22) (vs 9)) (some 21) (vs 8)) (some 20) (vs 7)) (some 19) (vs 6)) (some 18) (vs 5)) (some 17) (vs 4)) (some 16) (vs 3)) (some 15) (vs 2)) (some 14) (vs 1)) (some 13) (vs 0)) _;simp only[frm];clear hvs;generalize vs 0=z0;generalize vs 1=z1;generalize vs 2=z2;generalize vs 3=z3;generalize vs 4=z4;generalize vs 5=z5;generalize vs 6=z6;generalize vs 7=z7;generalize vs 8=z8;generalize vs 9=z9;generalize vs 10=z10;generalize vs 11=z11;generalize vs 12=z12;generalize vs 13=z13;have HF5:=lh (hS.fm HN.o.2.1 HN.o.2.2.1);have HK5:=lh hS.kp
  have x5:w5.cell? ⟨b,o,none⟩=some (.slice A l.length c):=by
   have:=((HH.o.1.kp hS.kp (fun h=>h HN.o.2.2.2)).cell (j:=0) rfl).1;rw[Nat.add_zero,HO.o] at this;exact this
  clear hS hwn
  go_wp2_with fail
  clear x5
  go_loopw [30] (fun ix wr=>∃ i:Nat,ix=iv (i:Int)∧i≤l.length∧Fm E N wr (.w (l'++(l.take i).flatMap qe1))∧Kp (fun k=>¬ N k) w wr) (fun ix _=>l.length - (intOf ix).toNat)
  case atStart=>exact⟨0,rfl,Nat.zero_le _,by rw[List.take_zero,List.flatMap_nil,List.append_nil];exact HF5.o,HK5.o⟩
  case round =>
   obtain⟨i,rfl,hi,hFi,hki⟩:=hrel;have hHi:=HH.o.1.kp hki (fun h=>h HN.o.2.2.2)
   have xi:wr.cell? ⟨b,o,none⟩=some (.slice A l.length c):=by
    have:=(hHi.cell (j:=0) rfl).1;rw[Nat.add_zero,HO.o] at this;exact this
   by_cases hlt2:i < l.length
   ·obtain⟨be,oe,hA,hNe,hee⟩:=HH.o.2.2.1.resolve_left (by omega);have hxi:l[i]?=some l[i]:=List.getElem?_eq_getElem hlt2;obtain⟨r,hrl,hRx,hcr⟩:=hee i _ hxi
    obtain⟨x,hxe⟩:∃ x,x=l[i]:=⟨_,rfl⟩
    rw[← hxe] at hxi hRx;have hle:=qo4 qe1 hxi;have htk:=qi4 qe1 hxi
    have hHe:Hd E N 65 be (List.replicate (oe+i*12) (bf)) [] true wr r:=by
     unfold Hd;rw[if_pos rfl];refine⟨hNe,fun j v hv=>?_⟩;obtain⟨g1,g2⟩:=hcr j v hv;rw[List.length_replicate];refine⟨hki.cell g1 (fun h=>h hNe),?_⟩;rw[qd6 (hki.block be (qa4 g1) (fun h=>h hNe))];exact g2
    obtain⟨li,hli⟩:∃ li,li=l'++(l.take i).flatMap qe1:=⟨_,rfl⟩
    rw[← hli] at hFi;have hlen:li.length=l0.length+(qd8 (l.length:Int)).length+((l.take i).flatMap qe1).length:=by rw[hli,HL.o.2.2,List.length_append,List.length_append]
    have cM:=waE_any (s:=.w li) (x:=x) (t:=65) (pre:=List.replicate (oe+i*12) (bf)) (post:=[]) hFi ((qa0 waC).wr hRx hki) hHe (List.length_replicate ..) (HH.o.2.2.2 x (List.mem_of_getElem? hxi)) (show li.length+(qe1 x).length≤2147483648 by have:=HL.o.1;omega);rw[← HGF.o] at cM;have HI:=lh (And.intro hki (And.intro htk hli));subst hA;have hic:i < c:=by omega
    clear hHi hxe hle htk hHe hlen hNe hee hrl hRx hcr hxi hli hFi hki
    go_wp2_with fail
    refine cM.mono ?_;rintro e w2 ⟨rfl,hF2,_,hfr2⟩;have HF2:=lh hF2
    have hfr3:Kp (fun k=>¬ N k) wr w2:=by
     have:=hfr2;unfold Fr at this;rw[show(Fs.w li).md=true from rfl,qe4] at this;exact this
    have HK2:=lh (HI.o.1.trans hfr3 fun _ _ h=>h);clear cM hF2 hfr2 hfr3 xi
    go_wp2_with fail
    go_roundw
    case rel=>exact⟨i+1,by go_num,hlt2,by rw[HI.o.2.1,← List.append_assoc,← HI.o.2.2];exact HF2.o,HK2.o⟩
    case measure=>simp[intOf];omega
   ·have hil:i=l.length:=by omega
    rw[hil,List.take_length] at hFi;have HE:=lh (And.intro hFi (And.intro hki hHi));clear hFi hki hHi hi hil
    go_wp2_with fail
    try simp only[Exit.inBlock,Exit.then]
    refine bodyPost_ret (results_none rfl _ _ _) rfl ?_;refine⟨rfl,?_,⟨A,c,HH.o.2.1.wr (qa0 waC) HE.o.2.1,HE.o.2.2⟩,?_⟩
    ·have:=HE.o.1;rw[HL.o.2.2,List.append_assoc] at this;exact this
    ·unfold Fr;rw[qe4];exact HE.o.2.1
end
theorem i_lsWa:(Tryz.prog.info? 65).map (fun i=>(i.zero,i.size,i.bytes))=some (some (.agg #[iv 0,iv 0,.string ⟨#[]⟩,iv 0,iv 0,iv 0,iv 0,uv 0,iv 0,iv 0,iv 0,bf]),12,104):=by kernel_rfl
section
variable {E:Env} {N:Nat→Prop} {t:TypeId} {b o c:Nat} {A:Option Addr} {pre post:List Value} {w:World} {rd:Rd} {s:Fs} {l:List Wa}
theorem lsWa_r (hF:Fm E N w (.r rd)) (hH:Hd E N t b pre post false w [sn]) (ho:pre.length=o):Calls Tryz.prog 116 #[pq E.gf 0,pq b o,.func (.func 117) #[pq E.gf 0] #[]] w (LsP E N t b pre post (.r (rd.list 1024 qf8).2) false (qa6 waC) 65 12 (rd.list 1024 qf8).1 w):=by
 have hbt:¬ (fun _=>False) t:=id;have hB:=hH;unfold Hd at hB;rw[if_neg (by simp)] at hB;have HF:=hF;obtain⟨hbk,hr,hgg,hbb⟩:=HF;obtain⟨csr,hcsr⟩:=hr.bkq;have HW:Hid (PW E b w):=lh ⟨hB.1.lt,hcsr.lt,hbk.lt,hbb,hB.2.1,hB.2.2.1,hB.2.2.2⟩;have hcl:=Rd.count_len (most:=1024) hr.b8;have hcm:=Rd.count_le (r:=rd) (most:=1024) (by decide);have hld:rd.list 1024 qf8=rep qf8 (rd.count 1024).2 (rd.count 1024).1.toNat:=rfl;rw[hld];have cC:=qm2 hr hbb (show(0:Int)≤1024 by decide) (by decide)
 obtain⟨⟨n',r1⟩,hq⟩:∃ p,p=rd.count 1024:=⟨_,rfl⟩
 rw[← hq] at cC hcl hcm ⊢;dsimp only at cC hcl hcm ⊢;obtain⟨n,rfl⟩:=Int.eq_ofNat_of_zero_le hcl.1;rw[Int.toNat_natCast];have hn:n≤1024:=by omega
 obtain⟨gf,hgf⟩:∃ gf,gf=E.gf:=⟨_,rfl⟩
 obtain⟨g,hg⟩:∃ g,g=E.g:=⟨_,rfl⟩
 have c1:w.cell? ⟨gf,1,none⟩=some (pq g 0):=by rw[hgf,hg];exact hbk.cell 1
 rw[← hgf];rw[← hg] at cC;have HGF:=lh (And.intro hgf hg);have H0:=lh (And.intro hF (And.intro hB.1 (And.intro hbt ho)));clear hH hF hB hbk hr hgg hbb hcsr hcl hcm hld hq hgf hg hbt ho
 go_enter Tryz.func116,Tryz.ntmps116
 go_wp2_with fail
 refine cC.mono ?_;rintro e wc ⟨rfl,hrc,hkc⟩
 have hPE:PE E N t b pre post (qa6 waC) 65 12 w (.r (rep qf8 r1 0).2) (sn) (sn) 0 [] (rep qf8 r1 0).1 wc:=by
  have hk:=hkc;rw[HGF.o.2] at hk hrc;refine⟨⟨H0.o.1.1.kp hk H0.o.1.2.2.1,hrc,H0.o.1.2.2.1,Nat.lt_of_lt_of_le H0.o.1.2.2.2 hk.size⟩,H0.o.2.1.kp hk HW.o.n2,World.ownsRow_nil _ _ _ _,Els.nil _ _ _,hk.mono fun _ _ h=>.inl h⟩
 have HPE:=lh hPE;clear cC hrc hkc hPE c1
 go_wp2_with fail
 go_loopw [46] (fun ix wr=>∃ (i:Nat) (A:Option Addr) (c:Nat) (xs:List Value),ix=iv (i:Int)∧i≤n∧PE E N t b pre post (qa6 waC) 65 12 w (.r (rep qf8 r1 i).2) (.slice A i c) (.slice A i c) i xs (rep qf8 r1 i).1 wr) (fun ix _=>n - (intOf ix).toNat)
 case atStart=>exact⟨0,none,0,[],rfl,Nat.zero_le _,HPE.o⟩
 case round =>
  clear HPE;obtain⟨i,A,c,xs,rfl,hi,hpe⟩:=hrel;have HP:=lh hpe
  by_cases hlt:i < n
  ·obtain⟨ri,hri⟩:∃ ri,ri=(rep qf8 r1 i).2:=⟨_,rfl⟩
   rw[← hri] at hpe HP
   obtain⟨w1,hw1⟩:∃ w1,w1=wr.alloc (.cells #[iv 0,iv 0,.string ⟨#[]⟩,iv 0,iv 0,iv 0,iv 0,uv 0,iv 0,iv 0,iv 0,bf] 65):=⟨_,rfl⟩
   obtain⟨xb,hxb⟩:∃ xb,xb=wr.heap.size:=⟨_,rfl⟩
   have hb1:bw wr w1:=by rw[hw1];exact(Below.refl _ _).alloc (Nat.le_refl _) _
   have hx1:Bk w1 xb 65 #[iv 0,iv 0,.string ⟨#[]⟩,iv 0,iv 0,iv 0,iv 0,uv 0,iv 0,iv 0,iv 0,bf]:=by rw[hw1,hxb];exact Bk.new _ _ _
   have hwz:=hpe.kp.size
   have hHx:Hd E N 65 xb [] [] false w1 [iv 0,iv 0,.string ⟨#[]⟩,iv 0,iv 0,iv 0,iv 0,uv 0,iv 0,iv 0,iv 0,bf]:=by
    unfold Hd;rw[if_neg (by simp)];refine⟨hx1,?_⟩;have:=HW.o;exact⟨by have:=this.lf;omega,by have:=this.lg;omega,by have:=this.lbb;omega⟩
   have cM:=waE_any (s:=.r ri) (x:=Wa.zero) (r:=[iv 0,iv 0,.string ⟨#[]⟩,iv 0,iv 0,iv 0,iv 0,uv 0,iv 0,iv 0,iv 0,bf]) (o:=0) (hpe.fm.below hb1) (rfl) hHx rfl (by refine⟨?_,?_,?_,?_,?_,?_,?_,?_,?_,?_,?_⟩ <;> simp[Wa.zero,Rf.zero,I64,P64,sP,ByteArray.size]) trivial;have hs:stp qe1 qf8 (.r ri) Wa.zero=(.r (qf8 ri).2,(qf8 ri).1):=rfl;rw[hs] at cM;dsimp only at cM
   obtain⟨⟨x',r2⟩,hx'⟩:∃ p,p=qf8 ri:=⟨_,rfl⟩
   rw[← hx'] at cM;dsimp only at cM;rw[← HGF.o.1] at cM;have HX:=lh (And.intro hx' (And.intro hri (And.intro hb1 (And.intro hx1 hxb))));clear hpe hx' hri hb1 hx1 hHx hs hwz
   go_upto_region 10 with fail
   rw[← hw1,← hxb];clear hw1 hxb
   go_wp2_with fail
   refine cM.mono ?_;rintro e w2 ⟨rfl,hF2,⟨rx,hrx,hHx2⟩,hfr2⟩
   have hpd:PD E N t b pre post (qa6 waC) 65 12 w (.r r2) (.slice A i c) (.slice A i c) i xs (rep qf8 r1 i).1 xb rx x' w2:=by
    have e:=HX.o.2.2.2.2;have h1:=HX.o.2.2.2.1;subst e;exact PE.read (qa0 waC) (by decide) (by decide) HW.o HP.o HX.o.2.2.1 (rx:=[iv 0,iv 0,.string ⟨#[]⟩,iv 0,iv 0,iv 0,iv 0,uv 0,iv 0,iv 0,iv 0,bf]) h1 hF2 hHx2 hrx hfr2
   clear cM hF2 hHx2 hfr2;obtain rfl:rx=waC x':=hrx;unfold waC at hpd;have HD:=lh hpd;clear hpd
   try clear hrx
   try clear hl9
   obtain⟨i5,hi5,hz0,hz1,hz2⟩:=info_parts i_lsWa;have HIN:=lh (And.intro hi5 (And.intro hz0 (And.intro hz1 hz2)));clear hi5 hz0 hz1 hz2
   obtain⟨lr,hlr⟩:∃ lr,lr=(rep qf8 r1 i).1:=⟨_,rfl⟩
   rw[← hlr] at HD;have HLR:=lh hlr;clear hlr
   go_wp2_with fail
   refine qc9 9 (fun i=>([[],[],[1],[2],[],[4],[3,5],[0],[6,7]]:List (List Nat)).getD i []) [5,6,8] (fun i=>([2,1,1,1,0,0,0,2,0]:List Nat).getD i 0) (fun zz=>([pq b o,pq b o,pq b o,.slice A i c,.agg #[iv x'.idm,iv x'.ids,Value.string x'.meth,iv x'.key,iv x'.tgt.kind,iv x'.tgt.int,iv x'.tgt.owner,uv x'.tgt.number,iv x'.tgt.idm,iv x'.tgt.ids,iv x'.tgt.cls,Value.bool x'.tgt.weak],bf,bf,pq b o,bf]:List Value).getD zz (bf)) (PqS (PD E N t b pre post (qa6 waC) 65 12 w (.r r2) (.slice A i c) (.slice A i c) i xs lr xb [iv x'.idm,iv x'.ids,Value.string x'.meth,iv x'.key,iv x'.tgt.kind,iv x'.tgt.int,iv x'.tgt.owner,uv x'.tgt.number,iv x'.tgt.idm,iv x'.tgt.ids,iv x'.tgt.cls,Value.bool x'.tgt.weak] x') (fun v w1=>PD E N t b pre post (qa6 waC) 65 12 w (.r r2) (.slice A i c) (.slice A i c) i xs lr xb [iv x'.idm,iv x'.ids,Value.string x'.meth,iv x'.key,iv x'.tgt.kind,iv x'.tgt.int,iv x'.tgt.owner,uv x'.tgt.number,iv x'.tgt.idm,iv x'.tgt.ids,iv x'.tgt.cls,Value.bool x'.tgt.weak] x' w1∧∃ kk,v=.slice (some ⟨kk,0,none⟩) 1 1∧Sl w1 12 (some ⟨kk,0,none⟩) 1 [iv x'.idm,iv x'.ids,Value.string x'.meth,iv x'.key,iv x'.tgt.kind,iv x'.tgt.int,iv x'.tgt.owner,uv x'.tgt.number,iv x'.tgt.idm,iv x'.tgt.ids,iv x'.tgt.cls,Value.bool x'.tgt.weak]) (fun v w1=>∃ A' c',v=.slice A' (i+1) c'∧PE E N t b pre post (qa6 waC) 65 12 w (.r r2) (.slice A i c) (.slice A' (i+1) c') (i+1) (xs++[iv x'.idm,iv x'.ids,Value.string x'.meth,iv x'.key,iv x'.tgt.kind,iv x'.tgt.int,iv x'.tgt.owner,uv x'.tgt.number,iv x'.tgt.idm,iv x'.tgt.ids,iv x'.tgt.cls,Value.bool x'.tgt.weak]) (lr++[x']) w1) (fun w1=>∃ A' c',PE E N t b pre post (qa6 waC) 65 12 w (.r r2) (.slice A' (i+1) c') (.slice A' (i+1) c') (i+1) (xs++[iv x'.idm,iv x'.ids,Value.string x'.meth,iv x'.key,iv x'.tgt.kind,iv x'.tgt.int,iv x'.tgt.owner,uv x'.tgt.number,iv x'.tgt.idm,iv x'.tgt.ids,iv x'.tgt.cls,Value.bool x'.tgt.weak]) (lr++[x']) w1)) rfl (by kernel_rfl) (by rfl) (by kernel_rfl) ?_ ?_ ?_ ?_
   ·exact HD.o.drew (qa0 waC)
   ·intro zi hzi hn zo ho k vs w1 hk hlow hS hvs;rcases (show zi=0 ∨ zi=1 ∨ zi=2 ∨ zi=3 ∨ zi=4 ∨ zi=5 ∨ zi=6 ∨ zi=7 ∨ zi=8 by omega) with rfl | rfl | rfl | rfl | rfl | rfl | rfl | rfl | rfl <;> cases ho
    ·clear hS hvs hlow hk hn;change Sem.run _ (execOp (Act.eval (frm _ _ _ [])) _) _=_;simp only[frm];go_simp
    ·clear hS hvs hlow hk hn;change Sem.run _ (execOp (Act.eval (frm _ _ _ [])) _) _=_;simp only[frm];go_simp
    ·have h1:vs 1=pq b o:=hvs 1 (by decide) (by decide);clear hS hvs hlow hk hn;change Sem.run _ (execOp (Act.eval (Act.put (frm _ _ _ []) (some 51) (vs 1))) _) _=_;simp only[frm,h1];go_simp
    ·have h2:vs 2=pq b o:=hvs 2 (by decide) (by decide);replace hk:k≤1:=hk
     have hpl:Bk w1 b t (pre++[Value.slice A i c]++post).toArray:=by
      rcases (show k=0 ∨ k=1 by omega) with rfl | rfl
      ·exact(show PD E N t b pre post (qa6 waC) 65 12 w (.r r2) (.slice A i c) (.slice A i c) i xs lr xb [iv x'.idm,iv x'.ids,Value.string x'.meth,iv x'.key,iv x'.tgt.kind,iv x'.tgt.int,iv x'.tgt.owner,uv x'.tgt.number,iv x'.tgt.idm,iv x'.tgt.ids,iv x'.tgt.cls,Value.bool x'.tgt.weak] x' w1 from hS).pl
      ·exact(show(fun v w1=>PD E N t b pre post (qa6 waC) 65 12 w (.r r2) (.slice A i c) (.slice A i c) i xs lr xb [iv x'.idm,iv x'.ids,Value.string x'.meth,iv x'.key,iv x'.tgt.kind,iv x'.tgt.int,iv x'.tgt.owner,uv x'.tgt.number,iv x'.tgt.idm,iv x'.tgt.ids,iv x'.tgt.cls,Value.bool x'.tgt.weak] x' w1∧∃ kk,v=.slice (some ⟨kk,0,none⟩) 1 1∧Sl w1 12 (some ⟨kk,0,none⟩) 1 [iv x'.idm,iv x'.ids,Value.string x'.meth,iv x'.key,iv x'.tgt.kind,iv x'.tgt.int,iv x'.tgt.owner,uv x'.tgt.number,iv x'.tgt.idm,iv x'.tgt.ids,iv x'.tgt.cls,Value.bool x'.tgt.weak]) (vs 5) w1 from hS).1.pl
     have c0:w1.cell? ⟨b,o,none⟩=some (.slice A i c):=by rw[hpl.cell,← H0.o.2.2.2];simp
     clear hpl;clear hS hvs hlow hk hn;change Sem.run _ (execOp (Act.eval (Act.put (frm _ _ _ []) (some 52) (vs 2))) _) _=_;simp only[frm,h2];go_simp
    ·replace hk:k≤0:=hk;obtain rfl:k=0:=by omega
     replace hS:PD E N t b pre post (qa6 waC) 65 12 w (.r r2) (.slice A i c) (.slice A i c) i xs lr xb [iv x'.idm,iv x'.ids,Value.string x'.meth,iv x'.key,iv x'.tgt.kind,iv x'.tgt.int,iv x'.tgt.owner,uv x'.tgt.number,iv x'.tgt.idm,iv x'.tgt.ids,iv x'.tgt.cls,Value.bool x'.tgt.weak] x' w1:=hS;have k0:cl w1 xb 0 (iv x'.idm):=hS.bx.cell 0;have k1:cl w1 xb 1 (iv x'.ids):=hS.bx.cell 1;have k2:cl w1 xb 2 (Value.string x'.meth):=hS.bx.cell 2;have k3:cl w1 xb 3 (iv x'.key):=hS.bx.cell 3;have k4:cl w1 xb 4 (iv x'.tgt.kind):=hS.bx.cell 4;have k5:cl w1 xb 5 (iv x'.tgt.int):=hS.bx.cell 5;have k6:cl w1 xb 6 (iv x'.tgt.owner):=hS.bx.cell 6;have k7:cl w1 xb 7 (uv x'.tgt.number):=hS.bx.cell 7;have k8:cl w1 xb 8 (iv x'.tgt.idm):=hS.bx.cell 8;have k9:cl w1 xb 9 (iv x'.tgt.ids):=hS.bx.cell 9;have k10:cl w1 xb 10 (iv x'.tgt.cls):=hS.bx.cell 10;have k11:cl w1 xb 11 (Value.bool x'.tgt.weak):=hS.bx.cell 11;clear hS hvs hlow hk hn;change Sem.run _ (execOp (Act.eval (frm _ _ _ [])) _) _=_;simp only[frm];go_simp
    ·exact absurd (by decide) hn
    ·exact absurd (by decide) hn
    ·have h0:vs 0=pq b o:=hvs 0 (by decide) (by decide);clear hS hvs hlow hk hn;change Sem.run _ (execOp (Act.eval (Act.put (frm _ _ _ []) (some 50) (vs 0))) _) _=_;simp only[frm,h0];go_simp
    ·exact absurd (by decide) hn
   ·intro p hp o ho vs w1 hS hvs;rcases (show p=0 ∨ p=1 ∨ p=2 by change p < 3 at hp;omega) with rfl | rfl | rfl <;> cases ho
    ·replace hS:PD E N t b pre post (qa6 waC) 65 12 w (.r r2) (.slice A i c) (.slice A i c) i xs lr xb [iv x'.idm,iv x'.ids,Value.string x'.meth,iv x'.key,iv x'.tgt.kind,iv x'.tgt.int,iv x'.tgt.owner,uv x'.tgt.number,iv x'.tgt.idm,iv x'.tgt.ids,iv x'.tgt.cls,Value.bool x'.tgt.weak] x' w1:=hS;have h4:vs 4=.agg #[iv x'.idm,iv x'.ids,Value.string x'.meth,iv x'.key,iv x'.tgt.kind,iv x'.tgt.int,iv x'.tgt.owner,uv x'.tgt.number,iv x'.tgt.idm,iv x'.tgt.ids,iv x'.tgt.cls,Value.bool x'.tgt.weak]:=hvs 4 (by decide) (by decide)
     show Made _ (fun v w1=>PD E N t b pre post (qa6 waC) 65 12 w (.r r2) (.slice A i c) (.slice A i c) i xs lr xb [iv x'.idm,iv x'.ids,Value.string x'.meth,iv x'.key,iv x'.tgt.kind,iv x'.tgt.int,iv x'.tgt.owner,uv x'.tgt.number,iv x'.tgt.idm,iv x'.tgt.ids,iv x'.tgt.cls,Value.bool x'.tgt.weak] x' w1∧∃ kk,v=.slice (some ⟨kk,0,none⟩) 1 1∧Sl w1 12 (some ⟨kk,0,none⟩) 1 [iv x'.idm,iv x'.ids,Value.string x'.meth,iv x'.key,iv x'.tgt.kind,iv x'.tgt.int,iv x'.tgt.owner,uv x'.tgt.number,iv x'.tgt.idm,iv x'.tgt.ids,iv x'.tgt.cls,Value.bool x'.tgt.weak]) _
     change Made _ _ (Sem.run _ (execOp (Act.eval (Act.put (frm _ _ _ []) (some 54) (vs 4))) _) _);simp only[frm,h4];have HS1:=lh hS;clear hS hvs h4;go_simp;have hb:bw w1 (w1.alloc (.cells #[iv x'.idm,iv x'.ids,Value.string x'.meth,iv x'.key,iv x'.tgt.kind,iv x'.tgt.int,iv x'.tgt.owner,uv x'.tgt.number,iv x'.tgt.idm,iv x'.tgt.ids,iv x'.tgt.cls,Value.bool x'.tgt.weak] 65)):=(Below.refl _ _).alloc (Nat.le_refl _) _;exact qa5 ⟨HS1.o.below (qa0 waC) hb,_,rfl,Sl.one (w:=w1) 65 #[iv x'.idm,iv x'.ids,Value.string x'.meth,iv x'.key,iv x'.tgt.kind,iv x'.tgt.int,iv x'.tgt.owner,uv x'.tgt.number,iv x'.tgt.idm,iv x'.tgt.ids,iv x'.tgt.cls,Value.bool x'.tgt.weak] (by simp)⟩
    ·replace hS:(fun v w1=>PD E N t b pre post (qa6 waC) 65 12 w (.r r2) (.slice A i c) (.slice A i c) i xs lr xb [iv x'.idm,iv x'.ids,Value.string x'.meth,iv x'.key,iv x'.tgt.kind,iv x'.tgt.int,iv x'.tgt.owner,uv x'.tgt.number,iv x'.tgt.idm,iv x'.tgt.ids,iv x'.tgt.cls,Value.bool x'.tgt.weak] x' w1∧∃ kk,v=.slice (some ⟨kk,0,none⟩) 1 1∧Sl w1 12 (some ⟨kk,0,none⟩) 1 [iv x'.idm,iv x'.ids,Value.string x'.meth,iv x'.key,iv x'.tgt.kind,iv x'.tgt.int,iv x'.tgt.owner,uv x'.tgt.number,iv x'.tgt.idm,iv x'.tgt.ids,iv x'.tgt.cls,Value.bool x'.tgt.weak]) (vs 5) w1:=hS;have h3:vs 3=.slice A i c:=hvs 3 (by decide) (by decide)
     show Made _ (fun v w1=>∃ A' c',v=.slice A' (i+1) c'∧PE E N t b pre post (qa6 waC) 65 12 w (.r r2) (.slice A i c) (.slice A' (i+1) c') (i+1) (xs++[iv x'.idm,iv x'.ids,Value.string x'.meth,iv x'.key,iv x'.tgt.kind,iv x'.tgt.int,iv x'.tgt.owner,uv x'.tgt.number,iv x'.tgt.idm,iv x'.tgt.ids,iv x'.tgt.cls,Value.bool x'.tgt.weak]) (lr++[x']) w1) _
     change Made _ _ (Sem.run _ (execOp (Act.eval (Act.put (Act.put (frm _ _ _ []) (some 55) (vs 5)) (some 53) (vs 3))) _) _);obtain⟨hpd,kk,hv5,hsl⟩:=hS;simp only[frm,h3,hv5];have HS1:=lh hpd;have HSS:=lh hsl;have hsz:w.heap.size≤w1.heap.size:=hpd.kp.size;clear hvs hpd hv5 hsl h3;refine qg9 (.tmp 53) (.tmp 55) 31 rfl Tryz.underlying31 HIN.o.1 HIN.o.2.1 HIN.o.2.2.1 HIN.o.2.2.2 rfl (by decide) rfl HS1.o.row rfl HSS.o (by simp[Value.oneCell']) (by unfold maxLen;omega) (by omega) hsz ?_;intro v' w' ho' hg' h4';obtain⟨A',c',rfl,_⟩:=qc1 ho';exact⟨A',c',rfl,HS1.o.grow (qa0 waC) (by decide) HW.o rfl hg' ho'⟩
    ·replace hS:(fun v w1=>∃ A' c',v=.slice A' (i+1) c'∧PE E N t b pre post (qa6 waC) 65 12 w (.r r2) (.slice A i c) (.slice A' (i+1) c') (i+1) (xs++[iv x'.idm,iv x'.ids,Value.string x'.meth,iv x'.key,iv x'.tgt.kind,iv x'.tgt.int,iv x'.tgt.owner,uv x'.tgt.number,iv x'.tgt.idm,iv x'.tgt.ids,iv x'.tgt.cls,Value.bool x'.tgt.weak]) (lr++[x']) w1) (vs 6) w1:=hS;have h7:vs 7=pq b o:=hvs 7 (by decide) (by decide)
     show Made _ (fun _=>(fun w1=>∃ A' c',PE E N t b pre post (qa6 waC) 65 12 w (.r r2) (.slice A' (i+1) c') (.slice A' (i+1) c') (i+1) (xs++[iv x'.idm,iv x'.ids,Value.string x'.meth,iv x'.key,iv x'.tgt.kind,iv x'.tgt.int,iv x'.tgt.owner,uv x'.tgt.number,iv x'.tgt.idm,iv x'.tgt.ids,iv x'.tgt.cls,Value.bool x'.tgt.weak]) (lr++[x']) w1)) _
     change Made _ _ (Sem.run _ (execOp (Act.eval (Act.put (Act.put (frm _ _ _ []) (some 57) (vs 7)) (some 56) (vs 6))) _) _);obtain⟨A',c',hv6,hpe⟩:=hS;simp only[frm,h7,hv6];have HS1:=lh hpe;have c0:w1.cell? ⟨b,o,none⟩=some (.slice A i c):=by rw[hpe.pl.cell,← H0.o.2.2.2];simp
     have f0:w1.frozen? ⟨b,o,none⟩=false:=hpe.pl.free o;clear hvs hpe hv6 h7;go_simp;have h9:=HS1.o.store (V':=.slice A' (i+1) c') (qa0 waC) H0.o.2.2.1 HW.o;rw[H0.o.2.2.2] at h9;exact qa7 (T:=fun _=>fun w1=>∃ A' c',PE E N t b pre post (qa6 waC) 65 12 w (.r r2) (.slice A' (i+1) c') (.slice A' (i+1) c') (i+1) (xs++[iv x'.idm,iv x'.ids,Value.string x'.meth,iv x'.key,iv x'.tgt.kind,iv x'.tgt.int,iv x'.tgt.owner,uv x'.tgt.number,iv x'.tgt.idm,iv x'.tgt.ids,iv x'.tgt.cls,Value.bool x'.tgt.weak]) (lr++[x']) w1) ⟨A',c',h9⟩
   ·intro vs w5 hS hvs;replace hS:(fun w1=>∃ A' c',PE E N t b pre post (qa6 waC) 65 12 w (.r r2) (.slice A' (i+1) c') (.slice A' (i+1) c') (i+1) (xs++[iv x'.idm,iv x'.ids,Value.string x'.meth,iv x'.key,iv x'.tgt.kind,iv x'.tgt.int,iv x'.tgt.owner,uv x'.tgt.number,iv x'.tgt.idm,iv x'.tgt.ids,iv x'.tgt.cls,Value.bool x'.tgt.weak]) (lr++[x']) w1) w5:=hS;change wpList _ _ _ [] (Act.put (Act.put (Act.put (Act.put (Act.put (Act.put (Act.put (Act.put (Act.put (frm _ _ _ []) none (vs 8)) (some 57) (vs 7)) (some 56) (vs 6)) (some 55) (vs 5)) (some 54) (vs 4)) (some 53) (vs 3)) (some 52) (vs 2)) (some 51) (vs 1)) (some 50) (vs 0)) _;simp only[frm];clear hvs;generalize vs 0=z0;generalize vs 1=z1;generalize vs 2=z2;generalize vs 3=z3;generalize vs 4=z4;generalize vs 5=z5;generalize vs 6=z6;generalize vs 7=z7;generalize vs 8=z8;obtain⟨A',c',hpe⟩:=hS;have HP5:=lh hpe;clear hpe
    go_wp2_with fail
    go_roundw
    case rel =>
     have e1:rep qf8 r1 (i+1)=(lr++[x'],r2):=by
      have:rep qf8 r1 (i+1)=((rep qf8 r1 i).1++[(qf8 (rep qf8 r1 i).2).1],(qf8 (rep qf8 r1 i).2).2):=rfl;rw[this,← HX.o.2.1,← HX.o.1,← HLR.o]
     exact⟨i+1,A',c',_,by go_num,hlt,by rw[e1];exact HP5.o⟩
    case measure=>simp[intOf];omega
  ·have hin:i=n:=by omega
   rw[hin] at hpe;clear hpe;have hpe:=HP.o;rw[hin] at hpe;have HE:=lh hpe;clear hpe hin HP
   go_wp2_with fail
   go_end0
   refine⟨rfl,HE.o.fm,⟨A,c,?_,?_⟩,?_⟩
   ·unfold LsR;rw[if_neg (by simp),qh8];exact⟨xs,qo0 HE.o.row (Nat.zero_le _),HE.o.els⟩
   ·unfold Hd;rw[if_neg (by simp),qh8];exact⟨HE.o.pl,HW.o.n1,HW.o.n2,HW.o.n3⟩
   ·unfold Fr;rw[qe5];exact HE.o.kp
theorem lsWa_any (hF:Fm E N w s) (hL:LsR (qa6 waC) 65 12 s.md N w A c l) (hH:Hd E N t b pre post s.md w [.slice A l.length c]) (ho:pre.length=o) (hz:s.md=false→A=none∧c=0∧l=[]) (hx:∀ x∈l,waP x) (hf:s.fit (qc6 qe1 l).length):Calls Tryz.prog 116 #[pq E.gf 0,pq b o,.func (.func 117) #[pq E.gf 0] #[]] w (LsP E N t b pre post (stp (qc6 qe1) (Rd.list 1024 qf8) s l).1 s.md (qa6 waC) 65 12 (stp (qc6 qe1) (Rd.list 1024 qf8) s l).2 w):=by
 cases s with
 | w l0=>exact lsWa_w hF hL hH ho hx hf
 | r rd =>
  obtain⟨rfl,rfl,rfl⟩:=hz rfl;exact lsWa_r hF hH ho
end
end
end Go.Proofs.YtmbnlccafcfbeaaGreatDoor
