/- Parts of the proof: RcL1, RcL2. -/
import Derived.Test.YtmbnlccafcfbeaaGreatDoorPfA
import Derived.Test.YtmbnlccafcfbeaaGreatDoorPf1
import Derived.Test.YtmbnlccafcfbeaaGreatDoorPf5
set_option linter.unusedVariables false
set_option linter.unusedSimpArgs false
set_option linter.unusedSectionVars false
set_option maxRecDepth 100000
set_option maxHeartbeats 64000000
namespace Go.Proofs.YtmbnlccafcfbeaaGreatDoor
section
open Go.RowKit
attribute [local go_sem] Oper.semAt_some
section
variable {E:Env} {N:Nat→Prop} {t:TypeId} {b o c:Nat} {A:Option Addr} {pre post:List Value} {w:World} {l0:List Int} {rd:Rd} {s:Fs} {l:List Rf}
theorem lsRf_w (hF:Fm E N w (.w l0)) (hL:LsR (qa6 rfC) 26 8 true N w A c l) (hH:Hd E N t b pre post true w [.slice A l.length c]) (ho:pre.length=o) (hx:∀ x∈l,rfP x) (hl:l0.length+(qc6 qc0 l).length≤2147483648):Calls Tryz.prog 158 #[pq E.gf 0,pq b o,.func (.func 42) #[pq E.gf 0] #[]] w (LsP E N t b pre post (.w (l0++qc6 qc0 l)) true (qa6 rfC) 26 8 l w):=by
 have hLL:=hL;unfold LsR at hLL;rw[if_pos rfl] at hLL;obtain⟨hlc,hln,hel⟩:=hLL;obtain⟨A0,c0_,hbk,hw,hN,hgN,hNl⟩:=hF;have hc:=(hH.cell (j:=0) rfl).1;have hb:N b:=by unfold Hd at hH;rw[if_pos rfl] at hH;exact hH.1
 rw[Nat.add_zero,ho] at hc
 obtain⟨gf,hgf⟩:∃ gf,gf=E.gf:=⟨_,rfl⟩
 have c0:w.cell? ⟨gf,0,none⟩=some (.slice A0 l0.length c0_):=by rw[hgf];exact hbk.cell 0
 have c1:w.cell? ⟨gf,1,none⟩=some (.pointer none):=by rw[hgf];exact hbk.cell 1
 have hlt:gf < w.heap.size:=by rw[hgf];exact hbk.lt
 have HS:Hid (LfD0 E N w l0 A0 c0_ b o (.slice A l.length c) w):=lh ⟨hbk,hw,hc,Kp.refl _ _⟩;have HH:=lh (And.intro hH (And.intro hL (And.intro hel hx)));have HN:=lh (And.intro hN (And.intro hgN (And.intro hNl hb)));have hwn:IntKind.u64.wrap (l.length:Int)=(l.length:Int):=by rw[IntKind.wrap_u64];omega
 have hul:(qd8 (l.length:Int)).length≤(qc6 qc0 l).length:=by unfold qc6;rw[List.length_append];omega
 obtain⟨l',hl'⟩:∃ l',l'=l0++qd8 (l.length:Int):=⟨_,rfl⟩
 rw[← hgf];have HGF:=lh hgf;have HL:=lh (And.intro hl (And.intro hul hl'));have HO:=lh ho;clear hbk hw hN hgN hNl hH hc hb hl' hgf hL hel hx hul hl ho
 go_enter Tryz.func158,Tryz.ntmps158
 go_upto_region 1 with fail
 clear c0 c1;refine qc9 14 (fun i=>([[],[],[1],[2],[3],[],[5],[6],[7],[8],[4,9],[0],[11],[10,12]]:List (List Nat)).getD i []) [10,13] (fun i=>([1,0,0,0,0,0,0,0,0,0,0,1,1,0]:List Nat).getD i 0) (fun zz=>([pq gf 0,pq gf 0,pq gf 0,pq gf 0,.slice A0 l0.length c0_,pq b o,pq b o,.slice A l.length c,iv (l.length:Int),uv (l.length:Int),bf,pq gf 0,pq gf 0,bf]:List Value).getD zz (bf)) (LfS (LfD0 E N w l0 A0 c0_ b o (.slice A l.length c)) (LfD1 E N w l' A0 l0.length c0_) (LfD2 E N w l')) rfl (by kernel_rfl) (by rfl) (by kernel_rfl) ?_ ?_ ?_ ?_
 ·exact⟨HS.o.1.kp ((Kp.refl (fun _=>False) w).drew) (fun h=>h),ql0 HS.o.2.1 ((Kp.refl (fun _=>False) w).drew) (fun _ _ h=>h),HS.o.2.2.1,HS.o.2.2.2.drew⟩
 ·intro zi hzi hn zo ho k vs w1 hk hlow hS hvs;rcases (show zi=0 ∨ zi=1 ∨ zi=2 ∨ zi=3 ∨ zi=4 ∨ zi=5 ∨ zi=6 ∨ zi=7 ∨ zi=8 ∨ zi=9 ∨ zi=10 ∨ zi=11 ∨ zi=12 ∨ zi=13 by omega) with rfl | rfl | rfl | rfl | rfl | rfl | rfl | rfl | rfl | rfl | rfl | rfl | rfl | rfl <;> cases ho
  ·clear hS hvs hlow hk hn;change Sem.run _ (execOp (Act.eval (frm _ _ _ [])) _) _=_;simp only[frm];go_simp
  ·clear hS hvs hlow hk hn;change Sem.run _ (execOp (Act.eval (frm _ _ _ [])) _) _=_;simp only[frm];go_simp
  ·have h1:vs 1=pq gf 0:=hvs 1 (by decide) (by decide);clear hS hvs hlow hk hn;change Sem.run _ (execOp (Act.eval (Act.put (frm _ _ _ []) (some 14) (vs 1))) _) _=_;simp only[frm,h1];go_simp
  ·have h2:vs 2=pq gf 0:=hvs 2 (by decide) (by decide);clear hS hvs hlow hk hn;change Sem.run _ (execOp (Act.eval (Act.put (frm _ _ _ []) (some 15) (vs 2))) _) _=_;simp only[frm,h2];go_simp
  ·have h3:vs 3=pq gf 0:=hvs 3 (by decide) (by decide);replace hk:k≤0:=hk;obtain rfl:k=0:=by omega
   replace hS:LfD0 E N w l0 A0 c0_ b o (.slice A l.length c) w1:=hS;have c0:w1.cell? ⟨gf,0,none⟩=some (.slice A0 l0.length c0_):=by rw[HGF.o];exact hS.1.cell 0
   clear hS hvs hlow hk hn;change Sem.run _ (execOp (Act.eval (Act.put (frm _ _ _ []) (some 16) (vs 3))) _) _=_;simp only[frm,h3];go_simp
  ·clear hS hvs hlow hk hn;change Sem.run _ (execOp (Act.eval (frm _ _ _ [])) _) _=_;simp only[frm];go_simp
  ·have h5:vs 5=pq b o:=hvs 5 (by decide) (by decide);clear hS hvs hlow hk hn;change Sem.run _ (execOp (Act.eval (Act.put (frm _ _ _ []) (some 18) (vs 5))) _) _=_;simp only[frm,h5];go_simp
  ·have h6:vs 6=pq b o:=hvs 6 (by decide) (by decide);replace hk:k≤0:=hk;obtain rfl:k=0:=by omega
   replace hS:LfD0 E N w l0 A0 c0_ b o (.slice A l.length c) w1:=hS;have c0:=hS.2.2.1;clear hS hvs hlow hk hn;change Sem.run _ (execOp (Act.eval (Act.put (frm _ _ _ []) (some 19) (vs 6))) _) _=_;simp only[frm,h6];go_simp
  ·have h7:vs 7=.slice A l.length c:=hvs 7 (by decide) (by decide);clear hS hvs hlow hk hn;change Sem.run _ (execOp (Act.eval (Act.put (frm _ _ _ []) (some 20) (vs 7))) _) _=_;simp only[frm,h7];go_simp
  ·have h8:vs 8=iv (l.length:Int):=hvs 8 (by decide) (by decide);clear hS hvs hlow hk hn;change Sem.run _ (execOp (Act.eval (Act.put (frm _ _ _ []) (some 21) (vs 8))) _) _=_;simp only[frm,h8];go_simp
  ·exact absurd (by decide) hn
  ·have h0:vs 0=pq gf 0:=hvs 0 (by decide) (by decide);clear hS hvs hlow hk hn;change Sem.run _ (execOp (Act.eval (Act.put (frm _ _ _ []) (some 13) (vs 0))) _) _=_;simp only[frm,h0];go_simp
  ·have h11:vs 11=pq gf 0:=hvs 11 (by decide) (by decide);clear hS hvs hlow hk hn;change Sem.run _ (execOp (Act.eval (Act.put (frm _ _ _ []) (some 24) (vs 11))) _) _=_;simp only[frm,h11];go_simp
  ·exact absurd (by decide) hn
 ·intro p hp o ho vs w1 hS hvs;rcases (show p=0 ∨ p=1 by change p < 2 at hp;omega) with rfl | rfl <;> cases ho
  ·replace hS:LfD0 E N w l0 A0 c0_ b o (.slice A l.length c) w1:=hS;have h4:vs 4=.slice A0 l0.length c0_:=hvs 4 (by decide) (by decide);have h9:vs 9=uv (l.length:Int):=hvs 9 (by decide) (by decide)
   show Made _ (LfD1 E N w l' A0 l0.length c0_) _
   change Made _ _ (Sem.run _ (execOp (Act.eval (Act.put (Act.put (frm _ _ _ []) (some 22) (vs 9)) (some 17) (vs 4))) _) _);simp only[frm,h4,h9];have cM:=qd5 (n:=(l.length:Int)) hS.2.1 (Nat.zero_le _) ⟨by omega,by omega⟩ (by have:=HL.o.1;have:=HL.o.2.1;omega);have hnl:∀ k,N k→k < w1.heap.size:=fun k hk=>Nat.lt_of_lt_of_le (HN.o.2.2.1 k hk) hS.2.2.2.size;rw[← HL.o.2.2] at cM;have HS1:=lh hS;have HNL:=lh hnl;clear hS hvs hnl;go_simp;exact HS1.o.call HN.o.1 HNL.o cM
  ·replace hS:LfD1 E N w l' A0 l0.length c0_ (vs 10) w1:=hS;have h12:vs 12=pq gf 0:=hvs 12 (by decide) (by decide)
   show Made _ (fun _=>LfD2 E N w l') _
   change Made _ _ (Sem.run _ (execOp (Act.eval (Act.put (Act.put (frm _ _ _ []) (some 25) (vs 12)) (some 23) (vs 10))) _) _)
   obtain⟨V,hV⟩:∃ V,V=vs 10:=⟨_,rfl⟩
   rw[← hV] at hS ⊢;obtain⟨A',c',rfl,_⟩:=qc1 hS.2.1;simp only[frm,h12,← hV];have c0:w1.cell? ⟨gf,0,none⟩=some (.slice A0 l0.length c0_):=by rw[HGF.o];exact hS.1.cell 0
   have f0:w1.frozen? ⟨gf,0,none⟩=false:=by rw[HGF.o];exact hS.1.free 0
   have HS1:=lh hS;clear hS hvs hV;go_simp;have h9:=HS1.o.store HN.o.2.1;rw[← HGF.o] at h9;exact qa7 (T:=fun _=>LfD2 E N w l') h9
 ·intro vs w5 hS hvs;replace hS:LfD2 E N w l' w5:=hS;change wpList _ _ _ [] (Act.put (Act.put (Act.put (Act.put (Act.put (Act.put (Act.put (Act.put (Act.put (Act.put (Act.put (Act.put (Act.put (Act.put (frm _ _ _ []) none (vs 13)) (some 25) (vs 12)) (some 24) (vs 11)) (some 23) (vs 10)) (some 22) (vs 9)) (some 21) (vs 8)) (some 20) (vs 7)) (some 19) (vs 6)) (some 18) (vs 5)) (some 17) (vs 4)) (some 16) (vs 3)) (some 15) (vs 2)) (some 14) (vs 1)) (some 13) (vs 0)) _;simp only[frm];clear hvs;generalize vs 0=z0;generalize vs 1=z1;generalize vs 2=z2;generalize vs 3=z3;generalize vs 4=z4;generalize vs 5=z5;generalize vs 6=z6;generalize vs 7=z7;generalize vs 8=z8;generalize vs 9=z9;generalize vs 10=z10;generalize vs 11=z11;generalize vs 12=z12;generalize vs 13=z13;have HF5:=lh (hS.fm HN.o.2.1 HN.o.2.2.1);have HK5:=lh hS.kp
  have x5:w5.cell? ⟨b,o,none⟩=some (.slice A l.length c):=by
   have:=((HH.o.1.kp hS.kp (fun h=>h HN.o.2.2.2)).cell (j:=0) rfl).1;rw[Nat.add_zero,HO.o] at this;exact this
  clear hS hwn
  go_wp2_with fail
  clear x5
  go_loopw [30] (fun ix wr=>∃ i:Nat,ix=iv (i:Int)∧i≤l.length∧Fm E N wr (.w (l'++(l.take i).flatMap qc0))∧Kp (fun k=>¬ N k) w wr) (fun ix _=>l.length - (intOf ix).toNat)
  case atStart=>exact⟨0,rfl,Nat.zero_le _,by rw[List.take_zero,List.flatMap_nil,List.append_nil];exact HF5.o,HK5.o⟩
  case round =>
   obtain⟨i,rfl,hi,hFi,hki⟩:=hrel;have hHi:=HH.o.1.kp hki (fun h=>h HN.o.2.2.2)
   have xi:wr.cell? ⟨b,o,none⟩=some (.slice A l.length c):=by
    have:=(hHi.cell (j:=0) rfl).1;rw[Nat.add_zero,HO.o] at this;exact this
   by_cases hlt2:i < l.length
   ·obtain⟨be,oe,hA,hNe,hee⟩:=HH.o.2.2.1.resolve_left (by omega);have hxi:l[i]?=some l[i]:=List.getElem?_eq_getElem hlt2;obtain⟨r,hrl,hRx,hcr⟩:=hee i _ hxi
    obtain⟨x,hxe⟩:∃ x,x=l[i]:=⟨_,rfl⟩
    rw[← hxe] at hxi hRx;have hle:=qo4 qc0 hxi;have htk:=qi4 qc0 hxi
    have hHe:Hd E N 26 be (List.replicate (oe+i*8) (bf)) [] true wr r:=by
     unfold Hd;rw[if_pos rfl];refine⟨hNe,fun j v hv=>?_⟩;obtain⟨g1,g2⟩:=hcr j v hv;rw[List.length_replicate];refine⟨hki.cell g1 (fun h=>h hNe),?_⟩;rw[qd6 (hki.block be (qa4 g1) (fun h=>h hNe))];exact g2
    obtain⟨li,hli⟩:∃ li,li=l'++(l.take i).flatMap qc0:=⟨_,rfl⟩
    rw[← hli] at hFi;have hlen:li.length=l0.length+(qd8 (l.length:Int)).length+((l.take i).flatMap qc0).length:=by rw[hli,HL.o.2.2,List.length_append,List.length_append]
    have cM:=rfE_any (s:=.w li) (x:=x) (t:=26) (pre:=List.replicate (oe+i*8) (bf)) (post:=[]) hFi ((qa0 rfC).wr hRx hki) hHe (List.length_replicate ..) (HH.o.2.2.2 x (List.mem_of_getElem? hxi)) (show li.length+(qc0 x).length≤2147483648 by have:=HL.o.1;omega);rw[← HGF.o] at cM;have HI:=lh (And.intro hki (And.intro htk hli));subst hA;have hic:i < c:=by omega
    clear hHi hxe hle htk hHe hlen hNe hee hrl hRx hcr hxi hli hFi hki
    go_wp2_with fail
    refine cM.mono ?_;rintro e w2 ⟨rfl,hF2,_,hfr2⟩;have HF2:=lh hF2
    have hfr3:Kp (fun k=>¬ N k) wr w2:=by
     have:=hfr2;unfold Fr at this;rw[show(Fs.w li).md=true from rfl,qe4] at this;exact this
    have HK2:=lh (HI.o.1.trans hfr3 fun _ _ h=>h);clear cM hF2 hfr2 hfr3 xi
    go_wp2_with fail
    go_roundw
    case rel=>exact⟨i+1,by go_num,hlt2,by rw[HI.o.2.1,← List.append_assoc,← HI.o.2.2];exact HF2.o,HK2.o⟩
    case measure=>simp[intOf];omega
   ·have hil:i=l.length:=by omega
    rw[hil,List.take_length] at hFi;have HE:=lh (And.intro hFi (And.intro hki hHi));clear hFi hki hHi hi hil
    go_wp2_with fail
    try simp only[Exit.inBlock,Exit.then]
    refine bodyPost_ret (results_none rfl _ _ _) rfl ?_;refine⟨rfl,?_,⟨A,c,HH.o.2.1.wr (qa0 rfC) HE.o.2.1,HE.o.2.2⟩,?_⟩
    ·have:=HE.o.1;rw[HL.o.2.2,List.append_assoc] at this;exact this
    ·unfold Fr;rw[qe4];exact HE.o.2.1
end
section
variable {E:Env} {N:Nat→Prop} {t:TypeId} {b o c:Nat} {A:Option Addr} {pre post:List Value} {w:World} {l0:List Int} {rd:Rd} {s:Fs} {l:List In}
theorem lsIn_w (hF:Fm E N w (.w l0)) (hL:LsR (qa6 inC) 99 3 true N w A c l) (hH:Hd E N t b pre post true w [.slice A l.length c]) (ho:pre.length=o) (hx:∀ x∈l,inP x) (hl:l0.length+(qc6 qe0 l).length≤2147483648):Calls Tryz.prog 118 #[pq E.gf 0,pq b o,.func (.func 119) #[pq E.gf 0] #[]] w (LsP E N t b pre post (.w (l0++qc6 qe0 l)) true (qa6 inC) 99 3 l w):=by
 have hLL:=hL;unfold LsR at hLL;rw[if_pos rfl] at hLL;obtain⟨hlc,hln,hel⟩:=hLL;obtain⟨A0,c0_,hbk,hw,hN,hgN,hNl⟩:=hF;have hc:=(hH.cell (j:=0) rfl).1;have hb:N b:=by unfold Hd at hH;rw[if_pos rfl] at hH;exact hH.1
 rw[Nat.add_zero,ho] at hc
 obtain⟨gf,hgf⟩:∃ gf,gf=E.gf:=⟨_,rfl⟩
 have c0:w.cell? ⟨gf,0,none⟩=some (.slice A0 l0.length c0_):=by rw[hgf];exact hbk.cell 0
 have c1:w.cell? ⟨gf,1,none⟩=some (.pointer none):=by rw[hgf];exact hbk.cell 1
 have hlt:gf < w.heap.size:=by rw[hgf];exact hbk.lt
 have HS:Hid (LfD0 E N w l0 A0 c0_ b o (.slice A l.length c) w):=lh ⟨hbk,hw,hc,Kp.refl _ _⟩;have HH:=lh (And.intro hH (And.intro hL (And.intro hel hx)));have HN:=lh (And.intro hN (And.intro hgN (And.intro hNl hb)));have hwn:IntKind.u64.wrap (l.length:Int)=(l.length:Int):=by rw[IntKind.wrap_u64];omega
 have hul:(qd8 (l.length:Int)).length≤(qc6 qe0 l).length:=by unfold qc6;rw[List.length_append];omega
 obtain⟨l',hl'⟩:∃ l',l'=l0++qd8 (l.length:Int):=⟨_,rfl⟩
 rw[← hgf];have HGF:=lh hgf;have HL:=lh (And.intro hl (And.intro hul hl'));have HO:=lh ho;clear hbk hw hN hgN hNl hH hc hb hl' hgf hL hel hx hul hl ho
 go_enter Tryz.func118,Tryz.ntmps118
 go_upto_region 1 with fail
 clear c0 c1;refine qc9 14 (fun i=>([[],[],[1],[2],[3],[],[5],[6],[7],[8],[4,9],[0],[11],[10,12]]:List (List Nat)).getD i []) [10,13] (fun i=>([1,0,0,0,0,0,0,0,0,0,0,1,1,0]:List Nat).getD i 0) (fun zz=>([pq gf 0,pq gf 0,pq gf 0,pq gf 0,.slice A0 l0.length c0_,pq b o,pq b o,.slice A l.length c,iv (l.length:Int),uv (l.length:Int),bf,pq gf 0,pq gf 0,bf]:List Value).getD zz (bf)) (LfS (LfD0 E N w l0 A0 c0_ b o (.slice A l.length c)) (LfD1 E N w l' A0 l0.length c0_) (LfD2 E N w l')) rfl (by kernel_rfl) (by rfl) (by kernel_rfl) ?_ ?_ ?_ ?_
 ·exact⟨HS.o.1.kp ((Kp.refl (fun _=>False) w).drew) (fun h=>h),ql0 HS.o.2.1 ((Kp.refl (fun _=>False) w).drew) (fun _ _ h=>h),HS.o.2.2.1,HS.o.2.2.2.drew⟩
 ·intro zi hzi hn zo ho k vs w1 hk hlow hS hvs;rcases (show zi=0 ∨ zi=1 ∨ zi=2 ∨ zi=3 ∨ zi=4 ∨ zi=5 ∨ zi=6 ∨ zi=7 ∨ zi=8 ∨ zi=9 ∨ zi=10 ∨ zi=11 ∨ zi=12 ∨ zi=13 by omega) with rfl | rfl | rfl | rfl | rfl | rfl | rfl | rfl | rfl | rfl | rfl | rfl | rfl | rfl <;> cases ho
  ·clear hS hvs hlow hk hn;change Sem.run _ (execOp (Act.eval (frm _ _ _ [])) _) _=_;simp only[frm];go_simp
  ·clear hS hvs hlow hk hn;change Sem.run _ (execOp (Act.eval (frm _ _ _ [])) _) _=_;simp only[frm];go_simp
  ·have h1:vs 1=pq gf 0:=hvs 1 (by decide) (by decide);clear hS hvs hlow hk hn;change Sem.run _ (execOp (Act.eval (Act.put (frm _ _ _ []) (some 14) (vs 1))) _) _=_;simp only[frm,h1];go_simp
  ·have h2:vs 2=pq gf 0:=hvs 2 (by decide) (by decide);clear hS hvs hlow hk hn;change Sem.run _ (execOp (Act.eval (Act.put (frm _ _ _ []) (some 15) (vs 2))) _) _=_;simp only[frm,h2];go_simp
  ·have h3:vs 3=pq gf 0:=hvs 3 (by decide) (by decide);replace hk:k≤0:=hk;obtain rfl:k=0:=by omega
   replace hS:LfD0 E N w l0 A0 c0_ b o (.slice A l.length c) w1:=hS;have c0:w1.cell? ⟨gf,0,none⟩=some (.slice A0 l0.length c0_):=by rw[HGF.o];exact hS.1.cell 0
   clear hS hvs hlow hk hn;change Sem.run _ (execOp (Act.eval (Act.put (frm _ _ _ []) (some 16) (vs 3))) _) _=_;simp only[frm,h3];go_simp
  ·clear hS hvs hlow hk hn;change Sem.run _ (execOp (Act.eval (frm _ _ _ [])) _) _=_;simp only[frm];go_simp
  ·have h5:vs 5=pq b o:=hvs 5 (by decide) (by decide);clear hS hvs hlow hk hn;change Sem.run _ (execOp (Act.eval (Act.put (frm _ _ _ []) (some 18) (vs 5))) _) _=_;simp only[frm,h5];go_simp
  ·have h6:vs 6=pq b o:=hvs 6 (by decide) (by decide);replace hk:k≤0:=hk;obtain rfl:k=0:=by omega
   replace hS:LfD0 E N w l0 A0 c0_ b o (.slice A l.length c) w1:=hS;have c0:=hS.2.2.1;clear hS hvs hlow hk hn;change Sem.run _ (execOp (Act.eval (Act.put (frm _ _ _ []) (some 19) (vs 6))) _) _=_;simp only[frm,h6];go_simp
  ·have h7:vs 7=.slice A l.length c:=hvs 7 (by decide) (by decide);clear hS hvs hlow hk hn;change Sem.run _ (execOp (Act.eval (Act.put (frm _ _ _ []) (some 20) (vs 7))) _) _=_;simp only[frm,h7];go_simp
  ·have h8:vs 8=iv (l.length:Int):=hvs 8 (by decide) (by decide);clear hS hvs hlow hk hn;change Sem.run _ (execOp (Act.eval (Act.put (frm _ _ _ []) (some 21) (vs 8))) _) _=_;simp only[frm,h8];go_simp
  ·exact absurd (by decide) hn
  ·have h0:vs 0=pq gf 0:=hvs 0 (by decide) (by decide);clear hS hvs hlow hk hn;change Sem.run _ (execOp (Act.eval (Act.put (frm _ _ _ []) (some 13) (vs 0))) _) _=_;simp only[frm,h0];go_simp
  ·have h11:vs 11=pq gf 0:=hvs 11 (by decide) (by decide);clear hS hvs hlow hk hn;change Sem.run _ (execOp (Act.eval (Act.put (frm _ _ _ []) (some 24) (vs 11))) _) _=_;simp only[frm,h11];go_simp
  ·exact absurd (by decide) hn
 ·intro p hp o ho vs w1 hS hvs;rcases (show p=0 ∨ p=1 by change p < 2 at hp;omega) with rfl | rfl <;> cases ho
  ·replace hS:LfD0 E N w l0 A0 c0_ b o (.slice A l.length c) w1:=hS;have h4:vs 4=.slice A0 l0.length c0_:=hvs 4 (by decide) (by decide);have h9:vs 9=uv (l.length:Int):=hvs 9 (by decide) (by decide)
   show Made _ (LfD1 E N w l' A0 l0.length c0_) _
   change Made _ _ (Sem.run _ (execOp (Act.eval (Act.put (Act.put (frm _ _ _ []) (some 22) (vs 9)) (some 17) (vs 4))) _) _);simp only[frm,h4,h9];have cM:=qd5 (n:=(l.length:Int)) hS.2.1 (Nat.zero_le _) ⟨by omega,by omega⟩ (by have:=HL.o.1;have:=HL.o.2.1;omega);have hnl:∀ k,N k→k < w1.heap.size:=fun k hk=>Nat.lt_of_lt_of_le (HN.o.2.2.1 k hk) hS.2.2.2.size;rw[← HL.o.2.2] at cM;have HS1:=lh hS;have HNL:=lh hnl;clear hS hvs hnl;go_simp;exact HS1.o.call HN.o.1 HNL.o cM
  ·replace hS:LfD1 E N w l' A0 l0.length c0_ (vs 10) w1:=hS;have h12:vs 12=pq gf 0:=hvs 12 (by decide) (by decide)
   show Made _ (fun _=>LfD2 E N w l') _
   change Made _ _ (Sem.run _ (execOp (Act.eval (Act.put (Act.put (frm _ _ _ []) (some 25) (vs 12)) (some 23) (vs 10))) _) _)
   obtain⟨V,hV⟩:∃ V,V=vs 10:=⟨_,rfl⟩
   rw[← hV] at hS ⊢;obtain⟨A',c',rfl,_⟩:=qc1 hS.2.1;simp only[frm,h12,← hV];have c0:w1.cell? ⟨gf,0,none⟩=some (.slice A0 l0.length c0_):=by rw[HGF.o];exact hS.1.cell 0
   have f0:w1.frozen? ⟨gf,0,none⟩=false:=by rw[HGF.o];exact hS.1.free 0
   have HS1:=lh hS;clear hS hvs hV;go_simp;have h9:=HS1.o.store HN.o.2.1;rw[← HGF.o] at h9;exact qa7 (T:=fun _=>LfD2 E N w l') h9
 ·intro vs w5 hS hvs;replace hS:LfD2 E N w l' w5:=hS;change wpList _ _ _ [] (Act.put (Act.put (Act.put (Act.put (Act.put (Act.put (Act.put (Act.put (Act.put (Act.put (Act.put (Act.put (Act.put (Act.put (frm _ _ _ []) none (vs 13)) (some 25) (vs 12)) (some 24) (vs 11)) (some 23) (vs 10)) (some 22) (vs 9)) (some 21) (vs 8)) (some 20) (vs 7)) (some 19) (vs 6)) (some 18) (vs 5)) (some 17) (vs 4)) (some 16) (vs 3)) (some 15) (vs 2)) (some 14) (vs 1)) (some 13) (vs 0)) _;simp only[frm];clear hvs;generalize vs 0=z0;generalize vs 1=z1;generalize vs 2=z2;generalize vs 3=z3;generalize vs 4=z4;generalize vs 5=z5;generalize vs 6=z6;generalize vs 7=z7;generalize vs 8=z8;generalize vs 9=z9;generalize vs 10=z10;generalize vs 11=z11;generalize vs 12=z12;generalize vs 13=z13;have HF5:=lh (hS.fm HN.o.2.1 HN.o.2.2.1);have HK5:=lh hS.kp
  have x5:w5.cell? ⟨b,o,none⟩=some (.slice A l.length c):=by
   have:=((HH.o.1.kp hS.kp (fun h=>h HN.o.2.2.2)).cell (j:=0) rfl).1;rw[Nat.add_zero,HO.o] at this;exact this
  clear hS hwn
  go_wp2_with fail
  clear x5
  go_loopw [30] (fun ix wr=>∃ i:Nat,ix=iv (i:Int)∧i≤l.length∧Fm E N wr (.w (l'++(l.take i).flatMap qe0))∧Kp (fun k=>¬ N k) w wr) (fun ix _=>l.length - (intOf ix).toNat)
  case atStart=>exact⟨0,rfl,Nat.zero_le _,by rw[List.take_zero,List.flatMap_nil,List.append_nil];exact HF5.o,HK5.o⟩
  case round =>
   obtain⟨i,rfl,hi,hFi,hki⟩:=hrel;have hHi:=HH.o.1.kp hki (fun h=>h HN.o.2.2.2)
   have xi:wr.cell? ⟨b,o,none⟩=some (.slice A l.length c):=by
    have:=(hHi.cell (j:=0) rfl).1;rw[Nat.add_zero,HO.o] at this;exact this
   by_cases hlt2:i < l.length
   ·obtain⟨be,oe,hA,hNe,hee⟩:=HH.o.2.2.1.resolve_left (by omega);have hxi:l[i]?=some l[i]:=List.getElem?_eq_getElem hlt2;obtain⟨r,hrl,hRx,hcr⟩:=hee i _ hxi
    obtain⟨x,hxe⟩:∃ x,x=l[i]:=⟨_,rfl⟩
    rw[← hxe] at hxi hRx;have hle:=qo4 qe0 hxi;have htk:=qi4 qe0 hxi
    have hHe:Hd E N 99 be (List.replicate (oe+i*3) (bf)) [] true wr r:=by
     unfold Hd;rw[if_pos rfl];refine⟨hNe,fun j v hv=>?_⟩;obtain⟨g1,g2⟩:=hcr j v hv;rw[List.length_replicate];refine⟨hki.cell g1 (fun h=>h hNe),?_⟩;rw[qd6 (hki.block be (qa4 g1) (fun h=>h hNe))];exact g2
    obtain⟨li,hli⟩:∃ li,li=l'++(l.take i).flatMap qe0:=⟨_,rfl⟩
    rw[← hli] at hFi;have hlen:li.length=l0.length+(qd8 (l.length:Int)).length+((l.take i).flatMap qe0).length:=by rw[hli,HL.o.2.2,List.length_append,List.length_append]
    have cM:=inE_any (s:=.w li) (x:=x) (t:=99) (pre:=List.replicate (oe+i*3) (bf)) (post:=[]) hFi ((qa0 inC).wr hRx hki) hHe (List.length_replicate ..) (HH.o.2.2.2 x (List.mem_of_getElem? hxi)) (show li.length+(qe0 x).length≤2147483648 by have:=HL.o.1;omega);rw[← HGF.o] at cM;have HI:=lh (And.intro hki (And.intro htk hli));subst hA;have hic:i < c:=by omega
    clear hHi hxe hle htk hHe hlen hNe hee hrl hRx hcr hxi hli hFi hki
    go_wp2_with fail
    refine cM.mono ?_;rintro e w2 ⟨rfl,hF2,_,hfr2⟩;have HF2:=lh hF2
    have hfr3:Kp (fun k=>¬ N k) wr w2:=by
     have:=hfr2;unfold Fr at this;rw[show(Fs.w li).md=true from rfl,qe4] at this;exact this
    have HK2:=lh (HI.o.1.trans hfr3 fun _ _ h=>h);clear cM hF2 hfr2 hfr3 xi
    go_wp2_with fail
    go_roundw
    case rel=>exact⟨i+1,by go_num,hlt2,by rw[HI.o.2.1,← List.append_assoc,← HI.o.2.2];exact HF2.o,HK2.o⟩
    case measure=>simp[intOf];omega
   ·have hil:i=l.length:=by omega
    rw[hil,List.take_length] at hFi;have HE:=lh (And.intro hFi (And.intro hki hHi));clear hFi hki hHi hi hil
    go_wp2_with fail
    try simp only[Exit.inBlock,Exit.then]
    refine bodyPost_ret (results_none rfl _ _ _) rfl ?_;refine⟨rfl,?_,⟨A,c,HH.o.2.1.wr (qa0 inC) HE.o.2.1,HE.o.2.2⟩,?_⟩
    ·have:=HE.o.1;rw[HL.o.2.2,List.append_assoc] at this;exact this
    ·unfold Fr;rw[qe4];exact HE.o.2.1
end
section
variable {E:Env} {N:Nat→Prop} {t:TypeId} {b o c:Nat} {A:Option Addr} {pre post:List Value} {w:World} {l0:List Int} {rd:Rd} {s:Fs} {l:List Nd}
theorem lsNd_w (hF:Fm E N w (.w l0)) (hL:LsR (qa6 ndC) 136 3 true N w A c l) (hH:Hd E N t b pre post true w [.slice A l.length c]) (ho:pre.length=o) (hx:∀ x∈l,ndP x) (hl:l0.length+(qc6 qd4 l).length≤2147483648):Calls Tryz.prog 120 #[pq E.gf 0,pq b o,.func (.func 121) #[pq E.gf 0] #[]] w (LsP E N t b pre post (.w (l0++qc6 qd4 l)) true (qa6 ndC) 136 3 l w):=by
 have hLL:=hL;unfold LsR at hLL;rw[if_pos rfl] at hLL;obtain⟨hlc,hln,hel⟩:=hLL;obtain⟨A0,c0_,hbk,hw,hN,hgN,hNl⟩:=hF;have hc:=(hH.cell (j:=0) rfl).1;have hb:N b:=by unfold Hd at hH;rw[if_pos rfl] at hH;exact hH.1
 rw[Nat.add_zero,ho] at hc
 obtain⟨gf,hgf⟩:∃ gf,gf=E.gf:=⟨_,rfl⟩
 have c0:w.cell? ⟨gf,0,none⟩=some (.slice A0 l0.length c0_):=by rw[hgf];exact hbk.cell 0
 have c1:w.cell? ⟨gf,1,none⟩=some (.pointer none):=by rw[hgf];exact hbk.cell 1
 have hlt:gf < w.heap.size:=by rw[hgf];exact hbk.lt
 have HS:Hid (LfD0 E N w l0 A0 c0_ b o (.slice A l.length c) w):=lh ⟨hbk,hw,hc,Kp.refl _ _⟩;have HH:=lh (And.intro hH (And.intro hL (And.intro hel hx)));have HN:=lh (And.intro hN (And.intro hgN (And.intro hNl hb)));have hwn:IntKind.u64.wrap (l.length:Int)=(l.length:Int):=by rw[IntKind.wrap_u64];omega
 have hul:(qd8 (l.length:Int)).length≤(qc6 qd4 l).length:=by unfold qc6;rw[List.length_append];omega
 obtain⟨l',hl'⟩:∃ l',l'=l0++qd8 (l.length:Int):=⟨_,rfl⟩
 rw[← hgf];have HGF:=lh hgf;have HL:=lh (And.intro hl (And.intro hul hl'));have HO:=lh ho;clear hbk hw hN hgN hNl hH hc hb hl' hgf hL hel hx hul hl ho
 go_enter Tryz.func120,Tryz.ntmps120
 go_upto_region 1 with fail
 clear c0 c1;refine qc9 14 (fun i=>([[],[],[1],[2],[3],[],[5],[6],[7],[8],[4,9],[0],[11],[10,12]]:List (List Nat)).getD i []) [10,13] (fun i=>([1,0,0,0,0,0,0,0,0,0,0,1,1,0]:List Nat).getD i 0) (fun zz=>([pq gf 0,pq gf 0,pq gf 0,pq gf 0,.slice A0 l0.length c0_,pq b o,pq b o,.slice A l.length c,iv (l.length:Int),uv (l.length:Int),bf,pq gf 0,pq gf 0,bf]:List Value).getD zz (bf)) (LfS (LfD0 E N w l0 A0 c0_ b o (.slice A l.length c)) (LfD1 E N w l' A0 l0.length c0_) (LfD2 E N w l')) rfl (by kernel_rfl) (by rfl) (by kernel_rfl) ?_ ?_ ?_ ?_
 ·exact⟨HS.o.1.kp ((Kp.refl (fun _=>False) w).drew) (fun h=>h),ql0 HS.o.2.1 ((Kp.refl (fun _=>False) w).drew) (fun _ _ h=>h),HS.o.2.2.1,HS.o.2.2.2.drew⟩
 ·intro zi hzi hn zo ho k vs w1 hk hlow hS hvs;rcases (show zi=0 ∨ zi=1 ∨ zi=2 ∨ zi=3 ∨ zi=4 ∨ zi=5 ∨ zi=6 ∨ zi=7 ∨ zi=8 ∨ zi=9 ∨ zi=10 ∨ zi=11 ∨ zi=12 ∨ zi=13 by omega) with rfl | rfl | rfl | rfl | rfl | rfl | rfl | rfl | rfl | rfl | rfl | rfl | rfl | rfl <;> cases ho
  ·clear hS hvs hlow hk hn;change Sem.run _ (execOp (Act.eval (frm _ _ _ [])) _) _=_;simp only[frm];go_simp
  ·clear hS hvs hlow hk hn;change Sem.run _ (execOp (Act.eval (frm _ _ _ [])) _) _=_;simp only[frm];go_simp
  ·have h1:vs 1=pq gf 0:=hvs 1 (by decide) (by decide);clear hS hvs hlow hk hn;change Sem.run _ (execOp (Act.eval (Act.put (frm _ _ _ []) (some 14) (vs 1))) _) _=_;simp only[frm,h1];go_simp
  ·have h2:vs 2=pq gf 0:=hvs 2 (by decide) (by decide);clear hS hvs hlow hk hn;change Sem.run _ (execOp (Act.eval (Act.put (frm _ _ _ []) (some 15) (vs 2))) _) _=_;simp only[frm,h2];go_simp
  ·have h3:vs 3=pq gf 0:=hvs 3 (by decide) (by decide);replace hk:k≤0:=hk;obtain rfl:k=0:=by omega
   replace hS:LfD0 E N w l0 A0 c0_ b o (.slice A l.length c) w1:=hS;have c0:w1.cell? ⟨gf,0,none⟩=some (.slice A0 l0.length c0_):=by rw[HGF.o];exact hS.1.cell 0
   clear hS hvs hlow hk hn;change Sem.run _ (execOp (Act.eval (Act.put (frm _ _ _ []) (some 16) (vs 3))) _) _=_;simp only[frm,h3];go_simp
  ·clear hS hvs hlow hk hn;change Sem.run _ (execOp (Act.eval (frm _ _ _ [])) _) _=_;simp only[frm];go_simp
  ·have h5:vs 5=pq b o:=hvs 5 (by decide) (by decide);clear hS hvs hlow hk hn;change Sem.run _ (execOp (Act.eval (Act.put (frm _ _ _ []) (some 18) (vs 5))) _) _=_;simp only[frm,h5];go_simp
  ·have h6:vs 6=pq b o:=hvs 6 (by decide) (by decide);replace hk:k≤0:=hk;obtain rfl:k=0:=by omega
   replace hS:LfD0 E N w l0 A0 c0_ b o (.slice A l.length c) w1:=hS;have c0:=hS.2.2.1;clear hS hvs hlow hk hn;change Sem.run _ (execOp (Act.eval (Act.put (frm _ _ _ []) (some 19) (vs 6))) _) _=_;simp only[frm,h6];go_simp
  ·have h7:vs 7=.slice A l.length c:=hvs 7 (by decide) (by decide);clear hS hvs hlow hk hn;change Sem.run _ (execOp (Act.eval (Act.put (frm _ _ _ []) (some 20) (vs 7))) _) _=_;simp only[frm,h7];go_simp
  ·have h8:vs 8=iv (l.length:Int):=hvs 8 (by decide) (by decide);clear hS hvs hlow hk hn;change Sem.run _ (execOp (Act.eval (Act.put (frm _ _ _ []) (some 21) (vs 8))) _) _=_;simp only[frm,h8];go_simp
  ·exact absurd (by decide) hn
  ·have h0:vs 0=pq gf 0:=hvs 0 (by decide) (by decide);clear hS hvs hlow hk hn;change Sem.run _ (execOp (Act.eval (Act.put (frm _ _ _ []) (some 13) (vs 0))) _) _=_;simp only[frm,h0];go_simp
  ·have h11:vs 11=pq gf 0:=hvs 11 (by decide) (by decide);clear hS hvs hlow hk hn;change Sem.run _ (execOp (Act.eval (Act.put (frm _ _ _ []) (some 24) (vs 11))) _) _=_;simp only[frm,h11];go_simp
  ·exact absurd (by decide) hn
 ·intro p hp o ho vs w1 hS hvs;rcases (show p=0 ∨ p=1 by change p < 2 at hp;omega) with rfl | rfl <;> cases ho
  ·replace hS:LfD0 E N w l0 A0 c0_ b o (.slice A l.length c) w1:=hS;have h4:vs 4=.slice A0 l0.length c0_:=hvs 4 (by decide) (by decide);have h9:vs 9=uv (l.length:Int):=hvs 9 (by decide) (by decide)
   show Made _ (LfD1 E N w l' A0 l0.length c0_) _
   change Made _ _ (Sem.run _ (execOp (Act.eval (Act.put (Act.put (frm _ _ _ []) (some 22) (vs 9)) (some 17) (vs 4))) _) _);simp only[frm,h4,h9];have cM:=qd5 (n:=(l.length:Int)) hS.2.1 (Nat.zero_le _) ⟨by omega,by omega⟩ (by have:=HL.o.1;have:=HL.o.2.1;omega);have hnl:∀ k,N k→k < w1.heap.size:=fun k hk=>Nat.lt_of_lt_of_le (HN.o.2.2.1 k hk) hS.2.2.2.size;rw[← HL.o.2.2] at cM;have HS1:=lh hS;have HNL:=lh hnl;clear hS hvs hnl;go_simp;exact HS1.o.call HN.o.1 HNL.o cM
  ·replace hS:LfD1 E N w l' A0 l0.length c0_ (vs 10) w1:=hS;have h12:vs 12=pq gf 0:=hvs 12 (by decide) (by decide)
   show Made _ (fun _=>LfD2 E N w l') _
   change Made _ _ (Sem.run _ (execOp (Act.eval (Act.put (Act.put (frm _ _ _ []) (some 25) (vs 12)) (some 23) (vs 10))) _) _)
   obtain⟨V,hV⟩:∃ V,V=vs 10:=⟨_,rfl⟩
   rw[← hV] at hS ⊢;obtain⟨A',c',rfl,_⟩:=qc1 hS.2.1;simp only[frm,h12,← hV];have c0:w1.cell? ⟨gf,0,none⟩=some (.slice A0 l0.length c0_):=by rw[HGF.o];exact hS.1.cell 0
   have f0:w1.frozen? ⟨gf,0,none⟩=false:=by rw[HGF.o];exact hS.1.free 0
   have HS1:=lh hS;clear hS hvs hV;go_simp;have h9:=HS1.o.store HN.o.2.1;rw[← HGF.o] at h9;exact qa7 (T:=fun _=>LfD2 E N w l') h9
 ·intro vs w5 hS hvs;replace hS:LfD2 E N w l' w5:=hS;change wpList _ _ _ [] (Act.put (Act.put (Act.put (Act.put (Act.put (Act.put (Act.put (Act.put (Act.put (Act.put (Act.put (Act.put (Act.put (Act.put (frm _ _ _ []) none (vs 13)) (some 25) (vs 12)) (some 24) (vs 11)) (some 23) (vs 10)) (some 22) (vs 9)) (some 21) (vs 8)) (some 20) (vs 7)) (some 19) (vs 6)) (some 18) (vs 5)) (some 17) (vs 4)) (some 16) (vs 3)) (some 15) (vs 2)) (some 14) (vs 1)) (some 13) (vs 0)) _;simp only[frm];clear hvs;generalize vs 0=z0;generalize vs 1=z1;generalize vs 2=z2;generalize vs 3=z3;generalize vs 4=z4;generalize vs 5=z5;generalize vs 6=z6;generalize vs 7=z7;generalize vs 8=z8;generalize vs 9=z9;generalize vs 10=z10;generalize vs 11=z11;generalize vs 12=z12;generalize vs 13=z13;have HF5:=lh (hS.fm HN.o.2.1 HN.o.2.2.1);have HK5:=lh hS.kp
  have x5:w5.cell? ⟨b,o,none⟩=some (.slice A l.length c):=by
   have:=((HH.o.1.kp hS.kp (fun h=>h HN.o.2.2.2)).cell (j:=0) rfl).1;rw[Nat.add_zero,HO.o] at this;exact this
  clear hS hwn
  go_wp2_with fail
  clear x5
  go_loopw [30] (fun ix wr=>∃ i:Nat,ix=iv (i:Int)∧i≤l.length∧Fm E N wr (.w (l'++(l.take i).flatMap qd4))∧Kp (fun k=>¬ N k) w wr) (fun ix _=>l.length - (intOf ix).toNat)
  case atStart=>exact⟨0,rfl,Nat.zero_le _,by rw[List.take_zero,List.flatMap_nil,List.append_nil];exact HF5.o,HK5.o⟩
  case round =>
   obtain⟨i,rfl,hi,hFi,hki⟩:=hrel;have hHi:=HH.o.1.kp hki (fun h=>h HN.o.2.2.2)
   have xi:wr.cell? ⟨b,o,none⟩=some (.slice A l.length c):=by
    have:=(hHi.cell (j:=0) rfl).1;rw[Nat.add_zero,HO.o] at this;exact this
   by_cases hlt2:i < l.length
   ·obtain⟨be,oe,hA,hNe,hee⟩:=HH.o.2.2.1.resolve_left (by omega);have hxi:l[i]?=some l[i]:=List.getElem?_eq_getElem hlt2;obtain⟨r,hrl,hRx,hcr⟩:=hee i _ hxi
    obtain⟨x,hxe⟩:∃ x,x=l[i]:=⟨_,rfl⟩
    rw[← hxe] at hxi hRx;have hle:=qo4 qd4 hxi;have htk:=qi4 qd4 hxi
    have hHe:Hd E N 136 be (List.replicate (oe+i*3) (bf)) [] true wr r:=by
     unfold Hd;rw[if_pos rfl];refine⟨hNe,fun j v hv=>?_⟩;obtain⟨g1,g2⟩:=hcr j v hv;rw[List.length_replicate];refine⟨hki.cell g1 (fun h=>h hNe),?_⟩;rw[qd6 (hki.block be (qa4 g1) (fun h=>h hNe))];exact g2
    obtain⟨li,hli⟩:∃ li,li=l'++(l.take i).flatMap qd4:=⟨_,rfl⟩
    rw[← hli] at hFi;have hlen:li.length=l0.length+(qd8 (l.length:Int)).length+((l.take i).flatMap qd4).length:=by rw[hli,HL.o.2.2,List.length_append,List.length_append]
    have cM:=ndE_any (s:=.w li) (x:=x) (t:=136) (pre:=List.replicate (oe+i*3) (bf)) (post:=[]) hFi ((qa0 ndC).wr hRx hki) hHe (List.length_replicate ..) (HH.o.2.2.2 x (List.mem_of_getElem? hxi)) (show li.length+(qd4 x).length≤2147483648 by have:=HL.o.1;omega);rw[← HGF.o] at cM;have HI:=lh (And.intro hki (And.intro htk hli));subst hA;have hic:i < c:=by omega
    clear hHi hxe hle htk hHe hlen hNe hee hrl hRx hcr hxi hli hFi hki
    go_wp2_with fail
    refine cM.mono ?_;rintro e w2 ⟨rfl,hF2,_,hfr2⟩;have HF2:=lh hF2
    have hfr3:Kp (fun k=>¬ N k) wr w2:=by
     have:=hfr2;unfold Fr at this;rw[show(Fs.w li).md=true from rfl,qe4] at this;exact this
    have HK2:=lh (HI.o.1.trans hfr3 fun _ _ h=>h);clear cM hF2 hfr2 hfr3 xi
    go_wp2_with fail
    go_roundw
    case rel=>exact⟨i+1,by go_num,hlt2,by rw[HI.o.2.1,← List.append_assoc,← HI.o.2.2];exact HF2.o,HK2.o⟩
    case measure=>simp[intOf];omega
   ·have hil:i=l.length:=by omega
    rw[hil,List.take_length] at hFi;have HE:=lh (And.intro hFi (And.intro hki hHi));clear hFi hki hHi hi hil
    go_wp2_with fail
    try simp only[Exit.inBlock,Exit.then]
    refine bodyPost_ret (results_none rfl _ _ _) rfl ?_;refine⟨rfl,?_,⟨A,c,HH.o.2.1.wr (qa0 ndC) HE.o.2.1,HE.o.2.2⟩,?_⟩
    ·have:=HE.o.1;rw[HL.o.2.2,List.append_assoc] at this;exact this
    ·unfold Fr;rw[qe4];exact HE.o.2.1
end
end
section
open Go.RowKit
theorem Rd.count_len {most:Int} {r:Rd} (hb:B8 r.b):0≤(r.count most).1∧(r.count most).1 < 18446744073709551616:=by
 have:=Rd.u_rg hb;unfold P64 at this;unfold Rd.count
 split
 ·exact⟨Int.le_refl _,by show(0:Int) < 18446744073709551616;decide⟩
 ·split
  ·exact⟨Int.le_refl _,by show(0:Int) < 18446744073709551616;decide⟩
  ·split
   ·exact⟨Int.le_refl _,by show(0:Int) < 18446744073709551616;decide⟩
   ·exact this
theorem Rd.count_le {most:Int} {r:Rd} (h:0≤most):(r.count most).1≤most:=by
 unfold Rd.count
 split
 ·exact h
 ·split
  ·exact h
  ·rename_i h1
   split
   ·exact h
   ·omega
/-- the place, the row that it holds, and what is left to read -/
structure PE {α:Type} (E:Env) (N:Nat→Prop) (t:TypeId) (b:Nat) (pre post:List Value) (R:Rel α) (tE:TypeId) (sz:Nat) (W:World) (s:Fs) (V U:Value) (n:Nat) (xs:List Value) (l:List α) (w:World):Prop where
 fm:Fm E N w s
 pl:Bk w b t (pre++[V]++post).toArray
 row:w.ownsRow W.heap.size tE sz U n xs
 els:Els (R false N) sz w l xs
 kp:Kp (fun k=>k=E.g ∨ k=b) W w
/-- .. and the element that was read, in its variable -/
structure PD {α:Type} (E:Env) (N:Nat→Prop) (t:TypeId) (b:Nat) (pre post:List Value) (R:Rel α) (tE:TypeId) (sz:Nat) (W:World) (s:Fs) (V U:Value) (n:Nat) (xs:List Value) (l:List α) (xb:Nat) (rx:List Value) (x:α) (w:World):Prop extends PE E N t b pre post R tE sz W s V U n xs l w where
 bx:Bk w xb tE rx.toArray
 rx:R false N w x rx
 ne:∀ k,U.ownBlock=some k→k≠xb
/-- where all that lies -/
structure PW (E:Env) (b:Nat) (W:World):Prop where
 lb:b < W.heap.size
 lg:E.g < W.heap.size
 lf:E.gf < W.heap.size
 lbb:E.bb < W.heap.size
 n1:b≠E.gf
 n2:b≠E.g
 n3:b≠E.bb
section
variable {α:Type} {E:Env} {N:Nat→Prop} {t:TypeId} {b n xb:Nat} {pre post xs rx:List Value} {R:Rel α} {bad:TypeId→Prop} {tE:TypeId} {sz:Nat} {W w w':World} {rd:Rd} {V U V':Value} {l:List α} {x:α}
theorem qm9 (h:bw w w'):Kp (fun _=>False) w w':=Kp.of_below h
theorem PE.below (hR:RK R bad) (h:PE E N t b pre post R tE sz W (.r rd) V U n xs l w) (hb:bw w w'):PE E N t b pre post R tE sz W (.r rd) V U n xs l w' :=
 ⟨h.fm.below hb,h.pl.below hb h.pl.lt,own_below h.row hb,h.els.mono fun y r hy=>hR.rd hy (qm9 hb) (fun k h=>h.elim),h.kp.belowTo hb⟩
theorem PD.below (hR:RK R bad) (h:PD E N t b pre post R tE sz W (.r rd) V U n xs l xb rx x w) (hb:bw w w'):PD E N t b pre post R tE sz W (.r rd) V U n xs l xb rx x w' :=
 ⟨h.toPE.below hR hb,h.bx.below hb h.bx.lt,hR.rd h.rx (qm9 hb) (fun k h=>h.elim),h.ne⟩
theorem PD.drew (hR:RK R bad) (h:PD E N t b pre post R tE sz W (.r rd) V U n xs l xb rx x w):PD E N t b pre post R tE sz W (.r rd) V U n xs l xb rx x w.drew:=h.below hR ((Below.refl _ _).drew)
/-- the append -/
theorem PD.grow (hR:RK R bad) (hbad:¬ bad tE) (hW:PW E b W) (h:PD E N t b pre post R tE sz W (.r rd) V U n xs l xb rx x w) (hl:rx.length=sz) (hg:w.grownBy w' U.ownBlock) (ho:w'.ownsRow W.heap.size tE sz V' (n+1) (xs++rx)):PE E N t b pre post R tE sz W (.r rd) V V' (n+1) (xs++rx) (l++[x]) w':=by
 have hk:Kp (fun k=>U.ownBlock=some k) w w':=Kp.of_grown hg fun k hk=>hk;have hub:∀ k,U.ownBlock=some k→W.heap.size≤k:=fun k hk=>(h.row.lt k hk).1;have hS:∀ k,U.ownBlock=some k→∃ t cs,Bk w k t cs∧¬ bad t:=fun k hk=>let ⟨cs,hcs⟩:=own_bk h.row hk;⟨_,cs,hcs,hbad⟩;refine⟨h.fm.kp hk (fun e=>?_) (fun e=>?_) (fun e=>?_),h.pl.kp hk (fun e=>?_),ho,(h.els.mono fun y r hy=>hR.rd hy hk hS).snoc (hR.rd h.rx hk hS) hl,h.kp.trans hk fun k hk1 he=>?_⟩
 ·have:=hub _ e;have:=hW.lf;omega
 ·have:=hub _ e;have:=hW.lg;omega
 ·have:=hub _ e;have:=hW.lbb;omega
 ·have:=hub _ e;have:=hW.lb;omega
 ·have:=hub _ he;omega
/-- the store into the place -/
theorem PE.store (hR:RK R bad) (hbad:¬ bad t) (hW:PW E b W) (h:PE E N t b pre post R tE sz W (.r rd) V U n xs l w):PE E N t b pre post R tE sz W (.r rd) V' U n xs l (w.setCell ⟨b,pre.length,none⟩ V'):=by
 have hk:Kp (fun k=>k=b) w (w.setCell ⟨b,pre.length,none⟩ V'):=Kp.setCell (S:=fun k=>k=b) w ⟨b,pre.length,none⟩ _ rfl;have hS:∀ k,k=b→∃ t cs,Bk w k t cs∧¬ bad t:=fun k hk=>by subst hk;exact⟨_,_,h.pl,hbad⟩
 refine⟨h.fm.kp hk (fun e=>hW.n1 e.symm) (fun e=>hW.n2 e.symm) (fun e=>hW.n3 e.symm),bk_mid h.pl,ql0 h.row hk (fun k he e=>?_),h.els.mono fun y r hy=>hR.rd hy hk hS,h.kp.trans hk fun k _ e=>.inr e⟩;have:=(h.row.lt k he).1;have:=hW.lb
 omega
/-- an element is read into its variable -/
theorem PE.read {rd':Rd} {w1:World} (hR:RK R bad) (hbr:¬ bad 103) (hbE:¬ bad tE) (hW:PW E b W) (h:PE E N t b pre post R tE sz W (.r rd) V U n xs l w) (hb1:bw w w1) (hx1:Bk w1 w.heap.size tE (List.toArray rx)) {rx':List Value} {x':α} (hf:Fm E N w' (.r rd')) (hx:Hd E N tE w.heap.size [] [] false w' rx') (hrx:R false N w' x' rx') (hk:Fr E N w.heap.size false w1 w') :
  PD E N t b pre post R tE sz W (.r rd') V U n xs l w.heap.size rx' x' w':=by
 have h1:=h.below hR hb1;unfold Fr at hk;rw[qe5] at hk;obtain⟨cs,hcs⟩:=h1.fm.2.1.bkq;have hlt:=h.kp.size;have hS:∀ k,(k=E.g ∨ k=w.heap.size)→∃ t cs,Bk w1 k t cs∧¬ bad t:=fun k hk=>hk.elim (fun e=>by subst e;exact⟨_,cs,hcs,hbr⟩) (fun e=>by subst e;exact⟨_,_,hx1,hbE⟩);unfold Hd at hx;rw[if_neg (by simp)] at hx;have hxx:=hx.1;rw[List.nil_append,List.append_nil] at hxx;refine⟨⟨hf,h1.pl.kp hk (fun e=>e.elim hW.n2 fun e=>by have:=hW.lb;omega),ql0 h1.row hk (fun k he e=>?_),h1.els.mono fun y r hy=>hR.rd hy hk hS,h1.kp.trans hk fun k hk1 e=>?_⟩,hxx,hrx,fun k he e=>?_⟩
 ·have hk2:=h.row.lt k he;rcases e with e | e
  ·have:=hW.lg;omega
  ·omega
 ·rcases e with e | e
  ·exact .inl e
  ·omega
 ·have hk2:=h.row.lt k he
  omega
end
theorem LsR.fr {α:Type} {R:Rel α} {bad:TypeId→Prop} {tE:TypeId} {sz:Nat} {E:Env} {N:Nat→Prop} {t:TypeId} {b c:Nat} {pre post r:List Value} {m:Bool} {w w':World} {s:Fs} {A:Option Addr} {l:List α} (hR:RK R bad) (h:LsR R tE sz m N w A c l) (hF:Fm E N w s) (hm:s.md=m) (hH:Hd E N t b pre post m w r) (hf:Fr E N b m w w') (h1:t≠tE) (h2:¬ bad t) (h3:103≠tE) (h4:¬ bad 103):LsR R tE sz m N w' A c l:=by
 cases m with
 | true =>
  unfold Fr at hf;rw[qe4] at hf;exact h.wr hR hf
 | false =>
  unfold Fr at hf;rw[qe5] at hf
  cases s with
  | w l=>cases hm
  | r rd =>
   obtain⟨cs,hcs⟩:=hF.2.1.bkq;unfold Hd at hH;rw[if_neg (by simp)] at hH;exact h.rd hR hf fun k hk=>hk.elim (fun e=>by subst e;exact⟨_,cs,hcs,h3,h4⟩) fun e=>by subst e;exact⟨_,_,hH.1,h1,h2⟩
/-- the states of a region that appends an element -/
def PqS (D0:World→Prop) (D1 D2:Value→World→Prop) (D3:World→Prop):List Value→World→Prop
 | []=>D0
 | [v]=>D1 v
 | [_,v]=>D2 v
 | _=>D3
end
end Go.Proofs.YtmbnlccafcfbeaaGreatDoor
