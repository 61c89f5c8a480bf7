/- Parts of the proof: RcA. -/
import Derived.Test.YtmbnlccafcfbeaaGreatDoorPeA
import Derived.Test.YtmbnlccafcfbeaaGreatDoorPe3
import Derived.Test.YtmbnlccafcfbeaaGreatDoorPe6
import Derived.Test.YtmbnlccafcfbeaaGreatDoorPe7
set_option linter.unusedVariables false
set_option linter.unusedSimpArgs false
set_option linter.unusedSectionVars false
set_option maxRecDepth 100000
namespace Go.Proofs.YtmbnlccafcfbeaaGreatDoor
section
open Go.RowKit
attribute [local go_sem] Oper.semAt_some
def LfD0 (E:Env) (N:Nat→Prop) (W:World) (l:List Int) (A:Option Addr) (c b o:Nat) (v:Value) (w:World):Prop:=Bk w E.gf 82 #[.slice A l.length c,.pointer none]∧w.ownsRow 0 5 1 (.slice A l.length c) l.length (byts l)∧w.cell? ⟨b,o,none⟩=some v∧Kp (fun k=>¬ N k) W w
def LfD1 (E:Env) (N:Nat→Prop) (W:World) (l':List Int) (A:Option Addr) (n c:Nat) (V:Value) (w:World):Prop:=Bk w E.gf 82 #[.slice A n c,.pointer none]∧w.ownsRow 0 5 1 V l'.length (byts l')∧(∀ k,V.ownBlock=some k→¬ N k)∧Kp (fun k=>¬ N k) W w
def LfD2 (E:Env) (N:Nat→Prop) (W:World) (l':List Int) (w:World):Prop:=∃ A c,Bk w E.gf 82 #[.slice A l'.length c,.pointer none]∧w.ownsRow 0 5 1 (.slice A l'.length c) l'.length (byts l')∧(∀ k,(Value.slice A l'.length c).ownBlock=some k→¬ N k)∧Kp (fun k=>¬ N k) W w
def LfS (D0:World→Prop) (D1:Value→World→Prop) (D2:World→Prop):List Value→World→Prop
 | []=>D0
 | [v]=>D1 v
 | _=>D2
section
variable {E:Env} {N:Nat→Prop} {W w w':World} {l l':List Int} {A:Option Addr} {c b o n:Nat} {v V:Value}
theorem LfD0.call {f:FuncId} {args:Array Value} {P:Program} (h:LfD0 E N W l A c b o v w) (hN:∀ k,(Value.slice A l.length c).ownBlock=some k→¬ N k) (hl:∀ k,N k→k < w.heap.size) (hc:Calls P f args w (ApP 0 w (.slice A l.length c) l')):Made P (LfD1 E N W l' A l.length c) (.ok (.enter f args) w) :=
 made_call (hc.mono fun e w' ⟨u,he,h1,h2,h3⟩=>⟨u,he,h.1.kp h2 (row_ne h.2.1 h.1 (by decide)),h1,fun k hk=>(h3 k hk).elim (hN k) fun hge hn=>by have:=hl k hn;omega,h.2.2.2.trans h2 fun k _ hk=>hN k hk⟩)
theorem LfD1.store (h:LfD1 E N W l' A n c V w) (hg:¬ N E.gf):LfD2 E N W l' (w.setCell ⟨E.gf,0,none⟩ V):=by
 obtain⟨A',c',rfl,_⟩:=own_shape h.2.1
 have hk:Kp (fun k=>k=E.gf) w (w.setCell ⟨E.gf,0,none⟩ (.slice A' l'.length c')):=Kp.setCell (S:=fun k=>k=E.gf) w ⟨E.gf,0,none⟩ _ rfl
 exact⟨A',c',h.1.set 0 _,own_kpT h.2.1 hk (fun k e=>by subst e;exact⟨_,_,h.1,by decide⟩),h.2.2.1,h.2.2.2.trans hk fun k _ e=>by subst e;exact hg⟩
theorem LfD2.fm (h:LfD2 E N W l' w) (hg:¬ N E.gf) (hl:∀ k,N k→k < W.heap.size):Fm E N w (.w l'):=let ⟨A,c,h1,h2,h3,h4⟩:=h;⟨A,c,h1,h2,h3,hg,fun k hk=>Nat.lt_of_lt_of_le (hl k hk) h4.size⟩
theorem LfD2.kp (h:LfD2 E N W l' w):Kp (fun k=>¬ N k) W w:=let ⟨A,c,h1,h2,h3,h4⟩:=h;h4
theorem frS_true (b:Nat):FrS E N b true=fun k=>¬ N k:=by funext k;unfold FrS;rw[if_pos rfl]
theorem frS_false (b:Nat):FrS E N b false=fun k=>k=E.g ∨ k=b:=by funext k;unfold FrS;rw[if_neg (by simp)]
end
theorem encS_sz (s:ByteArray):s.size+1≤(encS s).length:=by
 unfold encS encU
 rw[List.length_append,List.length_cons,bts_len]
 omega
section
variable {E:Env} {N:Nat→Prop} {t:TypeId} {b o:Nat} {pre post:List Value} {w:World} {l:List Int} {rd:Rd} {s:Fs} {x:Int}
set_option maxHeartbeats 4000000 in
theorem Num_w (hF:Fm E N w (.w l)) (hH:Hd E N t b pre post true w [.int .u64 x]) (ho:pre.length=o) (hx:P64 x) (hl:l.length+(encU x).length≤2147483648):Calls Tryz.prog 51 #[.pointer (some ⟨E.gf,0,none⟩),.pointer (some ⟨b,o,none⟩)] w (StP E N t b pre post (.w (l++encU x)) true [.int .u64 x] w):=by
 obtain⟨A,c,hbk,hw,hN,hgN,hNl⟩:=hF
 have hc:=(hH.cell (j:=0) rfl).1
 have hb:N b:=by unfold Hd at hH;rw[if_pos rfl] at hH;exact hH.1
 rw[Nat.add_zero,ho] at hc
 obtain⟨gf,hgf⟩:∃ gf,gf=E.gf:=⟨_,rfl⟩
 have c0:w.cell? ⟨gf,0,none⟩=some (.slice A l.length c):=by rw[hgf];exact hbk.cell 0
 have c1:w.cell? ⟨gf,1,none⟩=some (.pointer none):=by rw[hgf];exact hbk.cell 1
 have hlt:gf < w.heap.size:=by rw[hgf];exact hbk.lt
 have HS:Hid (LfD0 E N w l A c b o (.int .u64 x) w):=lh ⟨hbk,hw,hc,Kp.refl _ _⟩
 have HH:=lh hH
 have HN:=lh (And.intro hN (And.intro hgN (And.intro hNl hb)))
 obtain⟨l',hl'⟩:∃ l',l'=l++encU x:=⟨_,rfl⟩
 rw[← hl',← hgf]
 have HGF:=lh hgf
 have HL:=lh (And.intro hl hl')
 clear hbk hw hN hgN hNl hH hc hb hl' hgf
 go_enter Tryz.func51,Tryz.ntmps51
 go_upto_region 2 with fail
 clear c0 c1
 refine wp_seq 12 (fun i=>([[],[],[1],[2],[3],[],[5],[6],[4,7],[0],[9],[8,10]]:List (List Nat)).getD i []) [8,11] (fun i=>([1,0,0,0,0,0,0,0,0,1,1,0]:List Nat).getD i 0) (fun zz=>([.pointer (some ⟨gf,0,none⟩),.pointer (some ⟨gf,0,none⟩),.pointer (some ⟨gf,0,none⟩),.pointer (some ⟨gf,0,none⟩),.slice A l.length c,.pointer (some ⟨b,o,none⟩),.pointer (some ⟨b,o,none⟩),.int .u64 x,.bool false,.pointer (some ⟨gf,0,none⟩),.pointer (some ⟨gf,0,none⟩),.bool false]:List Value).getD zz (.bool false)) (LfS (LfD0 E N w l A c b o (.int .u64 x)) (LfD1 E N w l' A l.length c) (LfD2 E N w l')) rfl (by kernel_rfl) (by rfl) (by kernel_rfl) ?_ ?_ ?_ ?_
 ·exact⟨HS.out.1.kp ((Kp.refl (fun _=>False) w).drew) (fun h=>h),own_kp HS.out.2.1 ((Kp.refl (fun _=>False) w).drew) (fun _ _ h=>h),HS.out.2.2.1,HS.out.2.2.2.drew⟩
 ·intro zi hzi hn zo ho k vs w1 hk hlow hS hvs
  rcases (show zi=0 ∨ zi=1 ∨ zi=2 ∨ zi=3 ∨ zi=4 ∨ zi=5 ∨ zi=6 ∨ zi=7 ∨ zi=8 ∨ zi=9 ∨ zi=10 ∨ zi=11 by omega) with rfl | rfl | rfl | rfl | rfl | rfl | rfl | rfl | rfl | rfl | rfl | rfl <;> cases ho
  ·clear hS hvs hlow hk hn
   change Sem.run _ (execOp (Act.eval (frm _ _ _ [])) _) _=_
   simp only[frm]
   go_simp
  ·clear hS hvs hlow hk hn
   change Sem.run _ (execOp (Act.eval (frm _ _ _ [])) _) _=_
   simp only[frm]
   go_simp
  ·have h1:vs 1=.pointer (some ⟨gf,0,none⟩):=hvs 1 (by decide) (by decide)
   clear hS hvs hlow hk hn
   change Sem.run _ (execOp (Act.eval (Act.put (frm _ _ _ []) (some 17) (vs 1))) _) _=_
   simp only[frm,h1]
   go_simp
  ·have h2:vs 2=.pointer (some ⟨gf,0,none⟩):=hvs 2 (by decide) (by decide)
   clear hS hvs hlow hk hn
   change Sem.run _ (execOp (Act.eval (Act.put (frm _ _ _ []) (some 18) (vs 2))) _) _=_
   simp only[frm,h2]
   go_simp
  ·have h3:vs 3=.pointer (some ⟨gf,0,none⟩):=hvs 3 (by decide) (by decide)
   replace hk:k≤0:=hk
   obtain rfl:k=0:=by omega
   replace hS:LfD0 E N w l A c b o (.int .u64 x) w1:=hS
   have c0:w1.cell? ⟨gf,0,none⟩=some (.slice A l.length c):=by rw[HGF.out];exact hS.1.cell 0
   clear hS hvs hlow hk hn
   change Sem.run _ (execOp (Act.eval (Act.put (frm _ _ _ []) (some 19) (vs 3))) _) _=_
   simp only[frm,h3]
   go_simp
  ·clear hS hvs hlow hk hn
   change Sem.run _ (execOp (Act.eval (frm _ _ _ [])) _) _=_
   simp only[frm]
   go_simp
  ·have h5:vs 5=.pointer (some ⟨b,o,none⟩):=hvs 5 (by decide) (by decide)
   clear hS hvs hlow hk hn
   change Sem.run _ (execOp (Act.eval (Act.put (frm _ _ _ []) (some 21) (vs 5))) _) _=_
   simp only[frm,h5]
   go_simp
  ·have h6:vs 6=.pointer (some ⟨b,o,none⟩):=hvs 6 (by decide) (by decide)
   replace hk:k≤0:=hk
   obtain rfl:k=0:=by omega
   replace hS:LfD0 E N w l A c b o (.int .u64 x) w1:=hS
   have c0:=hS.2.2.1
   clear hS hvs hlow hk hn
   change Sem.run _ (execOp (Act.eval (Act.put (frm _ _ _ []) (some 22) (vs 6))) _) _=_
   simp only[frm,h6]
   go_simp
  ·exact absurd (by decide) hn
  ·have h0:vs 0=.pointer (some ⟨gf,0,none⟩):=hvs 0 (by decide) (by decide)
   clear hS hvs hlow hk hn
   change Sem.run _ (execOp (Act.eval (Act.put (frm _ _ _ []) (some 16) (vs 0))) _) _=_
   simp only[frm,h0]
   go_simp
  ·have h9:vs 9=.pointer (some ⟨gf,0,none⟩):=hvs 9 (by decide) (by decide)
   clear hS hvs hlow hk hn
   change Sem.run _ (execOp (Act.eval (Act.put (frm _ _ _ []) (some 25) (vs 9))) _) _=_
   simp only[frm,h9]
   go_simp
  ·exact absurd (by decide) hn
 ·intro p hp o ho vs w1 hS hvs
  rcases (show p=0 ∨ p=1 by change p < 2 at hp;omega) with rfl | rfl <;> cases ho
  ·replace hS:LfD0 E N w l A c b o (.int .u64 x) w1:=hS
   have h4:vs 4=.slice A l.length c:=hvs 4 (by decide) (by decide)
   have h7:vs 7=.int .u64 x:=hvs 7 (by decide) (by decide)
   show Made _ (LfD1 E N w l' A l.length c) _
   change Made _ _ (Sem.run _ (execOp (Act.eval (Act.put (Act.put (frm _ _ _ []) (some 23) (vs 7)) (some 20) (vs 4))) _) _)
   simp only[frm,h4,h7]
   have hl:=HL.out.1
   have cM:=AppendUint_any hS.2.1 (Nat.zero_le _) hx (by omega)
   have hnl:∀ k,N k→k < w1.heap.size:=fun k hk=>Nat.lt_of_lt_of_le (HN.out.2.2.1 k hk) hS.2.2.2.size
   rw[← HL.out.2] at cM
   have HS1:=lh hS
   have HNL:=lh hnl
   clear hS hvs hnl hl
   go_simp
   exact HS1.out.call HN.out.1 HNL.out cM
  ·replace hS:LfD1 E N w l' A l.length c (vs 8) w1:=hS
   have h10:vs 10=.pointer (some ⟨gf,0,none⟩):=hvs 10 (by decide) (by decide)
   show Made _ (fun _=>LfD2 E N w l') _
   change Made _ _ (Sem.run _ (execOp (Act.eval (Act.put (Act.put (frm _ _ _ []) (some 26) (vs 10)) (some 24) (vs 8))) _) _)
   obtain⟨V,hV⟩:∃ V,V=vs 8:=⟨_,rfl⟩
   rw[← hV] at hS ⊢
   obtain⟨A',c',rfl,_⟩:=own_shape hS.2.1
   simp only[frm,h10,← hV]
   have c0:w1.cell? ⟨gf,0,none⟩=some (.slice A l.length c):=by rw[HGF.out];exact hS.1.cell 0
   have f0:w1.frozen? ⟨gf,0,none⟩=false:=by rw[HGF.out];exact hS.1.free 0
   have HS1:=lh hS
   clear hS hvs hV
   go_simp
   have h9:=HS1.out.store HN.out.2.1
   rw[← HGF.out] at h9
   exact made_skip (T:=fun _=>LfD2 E N w l') h9
 ·intro vs w5 hS hvs
  replace hS:LfD2 E N w l' w5:=hS
  change wpList _ _ _ [] (Act.put (Act.put (Act.put (Act.put (Act.put (Act.put (Act.put (Act.put (Act.put (Act.put (Act.put (Act.put (frm _ _ _ []) none (vs 11)) (some 26) (vs 10)) (some 25) (vs 9)) (some 24) (vs 8)) (some 23) (vs 7)) (some 22) (vs 6)) (some 21) (vs 5)) (some 20) (vs 4)) (some 19) (vs 3)) (some 18) (vs 2)) (some 17) (vs 1)) (some 16) (vs 0)) _
  simp only[frm]
  clear hvs
  generalize vs 0=z0
  generalize vs 1=z1
  generalize vs 2=z2
  generalize vs 3=z3
  generalize vs 4=z4
  generalize vs 5=z5
  generalize vs 6=z6
  generalize vs 7=z7
  generalize vs 8=z8
  generalize vs 9=z9
  generalize vs 10=z10
  generalize vs 11=z11
  have HS5:=lh hS
  clear hS
  go_wp2_with fail
  go_end0
  refine⟨rfl,HS5.out.fm HN.out.2.1 HN.out.2.2.1,HH.out.kp HS5.out.kp (fun h=>h HN.out.2.2.2),?_⟩
  unfold Fr
  rw[frS_true]
  exact HS5.out.kp
set_option maxHeartbeats 4000000 in
theorem Num_r (hF:Fm E N w (.r rd)) (hH:Hd E N t b pre post false w [.int .u64 x]) (ho:pre.length=o):Calls Tryz.prog 51 #[.pointer (some ⟨E.gf,0,none⟩),.pointer (some ⟨b,o,none⟩)] w (StP E N t b pre post (.r (Rd.u rd).2) false [.int .u64 (Rd.u rd).1] w):=by
 obtain⟨hbk,hr,hgg,hbb⟩:=hF
 obtain⟨gf,hgf⟩:∃ gf,gf=E.gf:=⟨_,rfl⟩
 obtain⟨g,hg⟩:∃ g,g=E.g:=⟨_,rfl⟩
 have c1:w.cell? ⟨gf,1,none⟩=some (.pointer (some ⟨g,0,none⟩)):=by rw[hgf,hg];exact hbk.cell 1
 have hlt:gf < w.heap.size:=by rw[hgf];exact hbk.lt
 have hB:=hH
 unfold Hd at hB
 rw[if_neg (by simp)] at hB
 obtain⟨hbm,n1,n2,n3⟩:=hB
 have cM:=Uint_any hr hbb
 obtain⟨⟨y,r2⟩,hy⟩:∃ p,p=Rd.u rd:=⟨_,rfl⟩
 rw[← hy] at cM
 rw[← hgf,← hy]
 dsimp only at cM ⊢
 rw[← hg] at cM
 have HGF:=lh (And.intro hgf hg)
 have HB:=lh (And.intro hbk (And.intro hbm (And.intro n1 (And.intro n2 (And.intro n3 (And.intro hgg hbb))))))
 have HO:=lh ho
 clear hbk hr hgg hbb hgf hg hy hH hbm n1 n2 n3 ho
 go_enter Tryz.func51,Tryz.ntmps51
 go_wp2_with fail
 refine cM.mono ?_
 rintro e w1 ⟨rfl,hr1,hk1⟩
 have hbm1:=HB.out.2.1.kp hk1 (by rw[HGF.out.2];exact HB.out.2.2.2.1)
 have hbk1:=HB.out.1.kp hk1 (by rw[HGF.out.2];exact HB.out.2.2.2.2.2.1)
 have x0:w1.cell? ⟨b,o,none⟩=some (.int .u64 x):=by rw[hbm1.cell,← HO.out];simp
 have f0:w1.frozen? ⟨b,o,none⟩=false:=hbm1.free o
 have H1:=lh (And.intro hr1 (And.intro hk1 (And.intro hbm1 hbk1)))
 clear cM hr1 hk1 hbm1 hbk1 c1
 go_wp2_with fail
 refine bodyPost_ret (results_none rfl _ _ _) rfl ?_
 have hk2:Kp (fun k=>k=b) w1 (w1.setCell ⟨b,o,none⟩ (.int .u64 y)):=Kp.setCell (S:=fun k=>k=b) w1 ⟨b,o,none⟩ _ rfl
 refine⟨rfl,⟨H1.out.2.2.2.kp hk2 (fun e=>HB.out.2.2.1 e.symm),?_,HB.out.2.2.2.2.2.1,Nat.lt_of_lt_of_le HB.out.2.2.2.2.2.2 (Nat.le_trans H1.out.2.1.size hk2.size)⟩,?_,?_⟩
 ·have:=H1.out.1
  rw[HGF.out.2] at this
  exact this.kp hk2 (fun e=>HB.out.2.2.2.1 e.symm) (fun e=>HB.out.2.2.2.2.1 e.symm)
 ·unfold Hd
  rw[if_neg (by simp)]
  have:=bk_mid (y:=.int .u64 y) H1.out.2.2.1
  rw[HO.out] at this
  exact⟨this,HB.out.2.2.1,HB.out.2.2.2.1,HB.out.2.2.2.2.1⟩
 ·unfold Fr
  rw[frS_false]
  have:=H1.out.2.1
  rw[HGF.out.2] at this
  exact(this.mono fun _ _ h=>.inl h).trans hk2 fun _ _ h=>.inr h
theorem Num_any (hF:Fm E N w s) (hH:Hd E N t b pre post s.md w [.int .u64 x]) (ho:pre.length=o) (hx:P64 x) (hl:s.fit (encU x).length):Calls Tryz.prog 51 #[.pointer (some ⟨E.gf,0,none⟩),.pointer (some ⟨b,o,none⟩)] w (StP E N t b pre post (stp encU Rd.u s x).1 s.md [.int .u64 (stp encU Rd.u s x).2] w):=by
 cases s with
 | w l=>exact Num_w hF hH ho hx hl
 | r rd=>exact Num_r hF hH ho
end
section
variable {E:Env} {N:Nat→Prop} {t:TypeId} {b o:Nat} {pre post:List Value} {w:World} {l:List Int} {rd:Rd} {s:Fs} {x:Int}
set_option maxHeartbeats 4000000 in
theorem Itg_w (hF:Fm E N w (.w l)) (hH:Hd E N t b pre post true w [.int .i64 x]) (ho:pre.length=o) (hx:I64 x) (hl:l.length+(encI x).length≤2147483648):Calls Tryz.prog 68 #[.pointer (some ⟨E.gf,0,none⟩),.pointer (some ⟨b,o,none⟩)] w (StP E N t b pre post (.w (l++encI x)) true [.int .i64 x] w):=by
 obtain⟨A,c,hbk,hw,hN,hgN,hNl⟩:=hF
 have hc:=(hH.cell (j:=0) rfl).1
 have hb:N b:=by unfold Hd at hH;rw[if_pos rfl] at hH;exact hH.1
 rw[Nat.add_zero,ho] at hc
 obtain⟨gf,hgf⟩:∃ gf,gf=E.gf:=⟨_,rfl⟩
 have c0:w.cell? ⟨gf,0,none⟩=some (.slice A l.length c):=by rw[hgf];exact hbk.cell 0
 have c1:w.cell? ⟨gf,1,none⟩=some (.pointer none):=by rw[hgf];exact hbk.cell 1
 have hlt:gf < w.heap.size:=by rw[hgf];exact hbk.lt
 have HS:Hid (LfD0 E N w l A c b o (.int .i64 x) w):=lh ⟨hbk,hw,hc,Kp.refl _ _⟩
 have HH:=lh hH
 have HN:=lh (And.intro hN (And.intro hgN (And.intro hNl hb)))
 obtain⟨l',hl'⟩:∃ l',l'=l++encI x:=⟨_,rfl⟩
 rw[← hl',← hgf]
 have HGF:=lh hgf
 have HL:=lh (And.intro hl hl')
 clear hbk hw hN hgN hNl hH hc hb hl' hgf
 go_enter Tryz.func68,Tryz.ntmps68
 go_upto_region 2 with fail
 clear c0 c1
 refine wp_seq 12 (fun i=>([[],[],[1],[2],[3],[],[5],[6],[4,7],[0],[9],[8,10]]:List (List Nat)).getD i []) [8,11] (fun i=>([1,0,0,0,0,0,0,0,0,1,1,0]:List Nat).getD i 0) (fun zz=>([.pointer (some ⟨gf,0,none⟩),.pointer (some ⟨gf,0,none⟩),.pointer (some ⟨gf,0,none⟩),.pointer (some ⟨gf,0,none⟩),.slice A l.length c,.pointer (some ⟨b,o,none⟩),.pointer (some ⟨b,o,none⟩),.int .i64 x,.bool false,.pointer (some ⟨gf,0,none⟩),.pointer (some ⟨gf,0,none⟩),.bool false]:List Value).getD zz (.bool false)) (LfS (LfD0 E N w l A c b o (.int .i64 x)) (LfD1 E N w l' A l.length c) (LfD2 E N w l')) rfl (by kernel_rfl) (by rfl) (by kernel_rfl) ?_ ?_ ?_ ?_
 ·exact⟨HS.out.1.kp ((Kp.refl (fun _=>False) w).drew) (fun h=>h),own_kp HS.out.2.1 ((Kp.refl (fun _=>False) w).drew) (fun _ _ h=>h),HS.out.2.2.1,HS.out.2.2.2.drew⟩
 ·intro zi hzi hn zo ho k vs w1 hk hlow hS hvs
  rcases (show zi=0 ∨ zi=1 ∨ zi=2 ∨ zi=3 ∨ zi=4 ∨ zi=5 ∨ zi=6 ∨ zi=7 ∨ zi=8 ∨ zi=9 ∨ zi=10 ∨ zi=11 by omega) with rfl | rfl | rfl | rfl | rfl | rfl | rfl | rfl | rfl | rfl | rfl | rfl <;> cases ho
  ·clear hS hvs hlow hk hn
   change Sem.run _ (execOp (Act.eval (frm _ _ _ [])) _) _=_
   simp only[frm]
   go_simp
  ·clear hS hvs hlow hk hn
   change Sem.run _ (execOp (Act.eval (frm _ _ _ [])) _) _=_
   simp only[frm]
   go_simp
  ·have h1:vs 1=.pointer (some ⟨gf,0,none⟩):=hvs 1 (by decide) (by decide)
   clear hS hvs hlow hk hn
   change Sem.run _ (execOp (Act.eval (Act.put (frm _ _ _ []) (some 17) (vs 1))) _) _=_
   simp only[frm,h1]
   go_simp
  ·have h2:vs 2=.pointer (some ⟨gf,0,none⟩):=hvs 2 (by decide) (by decide)
   clear hS hvs hlow hk hn
   change Sem.run _ (execOp (Act.eval (Act.put (frm _ _ _ []) (some 18) (vs 2))) _) _=_
   simp only[frm,h2]
   go_simp
  ·have h3:vs 3=.pointer (some ⟨gf,0,none⟩):=hvs 3 (by decide) (by decide)
   replace hk:k≤0:=hk
   obtain rfl:k=0:=by omega
   replace hS:LfD0 E N w l A c b o (.int .i64 x) w1:=hS
   have c0:w1.cell? ⟨gf,0,none⟩=some (.slice A l.length c):=by rw[HGF.out];exact hS.1.cell 0
   clear hS hvs hlow hk hn
   change Sem.run _ (execOp (Act.eval (Act.put (frm _ _ _ []) (some 19) (vs 3))) _) _=_
   simp only[frm,h3]
   go_simp
  ·clear hS hvs hlow hk hn
   change Sem.run _ (execOp (Act.eval (frm _ _ _ [])) _) _=_
   simp only[frm]
   go_simp
  ·have h5:vs 5=.pointer (some ⟨b,o,none⟩):=hvs 5 (by decide) (by decide)
   clear hS hvs hlow hk hn
   change Sem.run _ (execOp (Act.eval (Act.put (frm _ _ _ []) (some 21) (vs 5))) _) _=_
   simp only[frm,h5]
   go_simp
  ·have h6:vs 6=.pointer (some ⟨b,o,none⟩):=hvs 6 (by decide) (by decide)
   replace hk:k≤0:=hk
   obtain rfl:k=0:=by omega
   replace hS:LfD0 E N w l A c b o (.int .i64 x) w1:=hS
   have c0:=hS.2.2.1
   clear hS hvs hlow hk hn
   change Sem.run _ (execOp (Act.eval (Act.put (frm _ _ _ []) (some 22) (vs 6))) _) _=_
   simp only[frm,h6]
   go_simp
  ·exact absurd (by decide) hn
  ·have h0:vs 0=.pointer (some ⟨gf,0,none⟩):=hvs 0 (by decide) (by decide)
   clear hS hvs hlow hk hn
   change Sem.run _ (execOp (Act.eval (Act.put (frm _ _ _ []) (some 16) (vs 0))) _) _=_
   simp only[frm,h0]
   go_simp
  ·have h9:vs 9=.pointer (some ⟨gf,0,none⟩):=hvs 9 (by decide) (by decide)
   clear hS hvs hlow hk hn
   change Sem.run _ (execOp (Act.eval (Act.put (frm _ _ _ []) (some 25) (vs 9))) _) _=_
   simp only[frm,h9]
   go_simp
  ·exact absurd (by decide) hn
 ·intro p hp o ho vs w1 hS hvs
  rcases (show p=0 ∨ p=1 by change p < 2 at hp;omega) with rfl | rfl <;> cases ho
  ·replace hS:LfD0 E N w l A c b o (.int .i64 x) w1:=hS
   have h4:vs 4=.slice A l.length c:=hvs 4 (by decide) (by decide)
   have h7:vs 7=.int .i64 x:=hvs 7 (by decide) (by decide)
   show Made _ (LfD1 E N w l' A l.length c) _
   change Made _ _ (Sem.run _ (execOp (Act.eval (Act.put (Act.put (frm _ _ _ []) (some 23) (vs 7)) (some 20) (vs 4))) _) _)
   simp only[frm,h4,h7]
   have hl:=HL.out.1
   have cM:=AppendInt_any hS.2.1 (Nat.zero_le _) hx (by omega)
   have hnl:∀ k,N k→k < w1.heap.size:=fun k hk=>Nat.lt_of_lt_of_le (HN.out.2.2.1 k hk) hS.2.2.2.size
   rw[← HL.out.2] at cM
   have HS1:=lh hS
   have HNL:=lh hnl
   clear hS hvs hnl hl
   go_simp
   exact HS1.out.call HN.out.1 HNL.out cM
  ·replace hS:LfD1 E N w l' A l.length c (vs 8) w1:=hS
   have h10:vs 10=.pointer (some ⟨gf,0,none⟩):=hvs 10 (by decide) (by decide)
   show Made _ (fun _=>LfD2 E N w l') _
   change Made _ _ (Sem.run _ (execOp (Act.eval (Act.put (Act.put (frm _ _ _ []) (some 26) (vs 10)) (some 24) (vs 8))) _) _)
   obtain⟨V,hV⟩:∃ V,V=vs 8:=⟨_,rfl⟩
   rw[← hV] at hS ⊢
   obtain⟨A',c',rfl,_⟩:=own_shape hS.2.1
   simp only[frm,h10,← hV]
   have c0:w1.cell? ⟨gf,0,none⟩=some (.slice A l.length c):=by rw[HGF.out];exact hS.1.cell 0
   have f0:w1.frozen? ⟨gf,0,none⟩=false:=by rw[HGF.out];exact hS.1.free 0
   have HS1:=lh hS
   clear hS hvs hV
   go_simp
   have h9:=HS1.out.store HN.out.2.1
   rw[← HGF.out] at h9
   exact made_skip (T:=fun _=>LfD2 E N w l') h9
 ·intro vs w5 hS hvs
  replace hS:LfD2 E N w l' w5:=hS
  change wpList _ _ _ [] (Act.put (Act.put (Act.put (Act.put (Act.put (Act.put (Act.put (Act.put (Act.put (Act.put (Act.put (Act.put (frm _ _ _ []) none (vs 11)) (some 26) (vs 10)) (some 25) (vs 9)) (some 24) (vs 8)) (some 23) (vs 7)) (some 22) (vs 6)) (some 21) (vs 5)) (some 20) (vs 4)) (some 19) (vs 3)) (some 18) (vs 2)) (some 17) (vs 1)) (some 16) (vs 0)) _
  simp only[frm]
  clear hvs
  generalize vs 0=z0
  generalize vs 1=z1
  generalize vs 2=z2
  generalize vs 3=z3
  generalize vs 4=z4
  generalize vs 5=z5
  generalize vs 6=z6
  generalize vs 7=z7
  generalize vs 8=z8
  generalize vs 9=z9
  generalize vs 10=z10
  generalize vs 11=z11
  have HS5:=lh hS
  clear hS
  go_wp2_with fail
  go_end0
  refine⟨rfl,HS5.out.fm HN.out.2.1 HN.out.2.2.1,HH.out.kp HS5.out.kp (fun h=>h HN.out.2.2.2),?_⟩
  unfold Fr
  rw[frS_true]
  exact HS5.out.kp
set_option maxHeartbeats 4000000 in
theorem Itg_r (hF:Fm E N w (.r rd)) (hH:Hd E N t b pre post false w [.int .i64 x]) (ho:pre.length=o):Calls Tryz.prog 68 #[.pointer (some ⟨E.gf,0,none⟩),.pointer (some ⟨b,o,none⟩)] w (StP E N t b pre post (.r (Rd.i rd).2) false [.int .i64 (Rd.i rd).1] w):=by
 obtain⟨hbk,hr,hgg,hbb⟩:=hF
 obtain⟨gf,hgf⟩:∃ gf,gf=E.gf:=⟨_,rfl⟩
 obtain⟨g,hg⟩:∃ g,g=E.g:=⟨_,rfl⟩
 have c1:w.cell? ⟨gf,1,none⟩=some (.pointer (some ⟨g,0,none⟩)):=by rw[hgf,hg];exact hbk.cell 1
 have hlt:gf < w.heap.size:=by rw[hgf];exact hbk.lt
 have hB:=hH
 unfold Hd at hB
 rw[if_neg (by simp)] at hB
 obtain⟨hbm,n1,n2,n3⟩:=hB
 have cM:=Int_any hr hbb
 obtain⟨⟨y,r2⟩,hy⟩:∃ p,p=Rd.i rd:=⟨_,rfl⟩
 rw[← hy] at cM
 rw[← hgf,← hy]
 dsimp only at cM ⊢
 rw[← hg] at cM
 have HGF:=lh (And.intro hgf hg)
 have HB:=lh (And.intro hbk (And.intro hbm (And.intro n1 (And.intro n2 (And.intro n3 (And.intro hgg hbb))))))
 have HO:=lh ho
 clear hbk hr hgg hbb hgf hg hy hH hbm n1 n2 n3 ho
 go_enter Tryz.func68,Tryz.ntmps68
 go_wp2_with fail
 refine cM.mono ?_
 rintro e w1 ⟨rfl,hr1,hk1⟩
 have hbm1:=HB.out.2.1.kp hk1 (by rw[HGF.out.2];exact HB.out.2.2.2.1)
 have hbk1:=HB.out.1.kp hk1 (by rw[HGF.out.2];exact HB.out.2.2.2.2.2.1)
 have x0:w1.cell? ⟨b,o,none⟩=some (.int .i64 x):=by rw[hbm1.cell,← HO.out];simp
 have f0:w1.frozen? ⟨b,o,none⟩=false:=hbm1.free o
 have H1:=lh (And.intro hr1 (And.intro hk1 (And.intro hbm1 hbk1)))
 clear cM hr1 hk1 hbm1 hbk1 c1
 go_wp2_with fail
 refine bodyPost_ret (results_none rfl _ _ _) rfl ?_
 have hk2:Kp (fun k=>k=b) w1 (w1.setCell ⟨b,o,none⟩ (.int .i64 y)):=Kp.setCell (S:=fun k=>k=b) w1 ⟨b,o,none⟩ _ rfl
 refine⟨rfl,⟨H1.out.2.2.2.kp hk2 (fun e=>HB.out.2.2.1 e.symm),?_,HB.out.2.2.2.2.2.1,Nat.lt_of_lt_of_le HB.out.2.2.2.2.2.2 (Nat.le_trans H1.out.2.1.size hk2.size)⟩,?_,?_⟩
 ·have:=H1.out.1
  rw[HGF.out.2] at this
  exact this.kp hk2 (fun e=>HB.out.2.2.2.1 e.symm) (fun e=>HB.out.2.2.2.2.1 e.symm)
 ·unfold Hd
  rw[if_neg (by simp)]
  have:=bk_mid (y:=.int .i64 y) H1.out.2.2.1
  rw[HO.out] at this
  exact⟨this,HB.out.2.2.1,HB.out.2.2.2.1,HB.out.2.2.2.2.1⟩
 ·unfold Fr
  rw[frS_false]
  have:=H1.out.2.1
  rw[HGF.out.2] at this
  exact(this.mono fun _ _ h=>.inl h).trans hk2 fun _ _ h=>.inr h
theorem Itg_any (hF:Fm E N w s) (hH:Hd E N t b pre post s.md w [.int .i64 x]) (ho:pre.length=o) (hx:I64 x) (hl:s.fit (encI x).length):Calls Tryz.prog 68 #[.pointer (some ⟨E.gf,0,none⟩),.pointer (some ⟨b,o,none⟩)] w (StP E N t b pre post (stp encI Rd.i s x).1 s.md [.int .i64 (stp encI Rd.i s x).2] w):=by
 cases s with
 | w l=>exact Itg_w hF hH ho hx hl
 | r rd=>exact Itg_r hF hH ho
end
section
variable {E:Env} {N:Nat→Prop} {t:TypeId} {b o:Nat} {pre post:List Value} {w:World} {l:List Int} {rd:Rd} {s:Fs} {x:ByteArray}
set_option maxHeartbeats 4000000 in
theorem Txt_w (hF:Fm E N w (.w l)) (hH:Hd E N t b pre post true w [.string x]) (ho:pre.length=o) (hx:True) (hl:l.length+(encS x).length≤2147483648):Calls Tryz.prog 52 #[.pointer (some ⟨E.gf,0,none⟩),.pointer (some ⟨b,o,none⟩)] w (StP E N t b pre post (.w (l++encS x)) true [.string x] w):=by
 obtain⟨A,c,hbk,hw,hN,hgN,hNl⟩:=hF
 have hc:=(hH.cell (j:=0) rfl).1
 have hb:N b:=by unfold Hd at hH;rw[if_pos rfl] at hH;exact hH.1
 rw[Nat.add_zero,ho] at hc
 obtain⟨gf,hgf⟩:∃ gf,gf=E.gf:=⟨_,rfl⟩
 have c0:w.cell? ⟨gf,0,none⟩=some (.slice A l.length c):=by rw[hgf];exact hbk.cell 0
 have c1:w.cell? ⟨gf,1,none⟩=some (.pointer none):=by rw[hgf];exact hbk.cell 1
 have hlt:gf < w.heap.size:=by rw[hgf];exact hbk.lt
 have HS:Hid (LfD0 E N w l A c b o (.string x) w):=lh ⟨hbk,hw,hc,Kp.refl _ _⟩
 have HH:=lh hH
 have HN:=lh (And.intro hN (And.intro hgN (And.intro hNl hb)))
 obtain⟨l',hl'⟩:∃ l',l'=l++encS x:=⟨_,rfl⟩
 rw[← hl',← hgf]
 have HGF:=lh hgf
 have HL:=lh (And.intro hl hl')
 clear hbk hw hN hgN hNl hH hc hb hl' hgf
 go_enter Tryz.func52,Tryz.ntmps52
 go_upto_region 2 with fail
 clear c0 c1
 refine wp_seq 12 (fun i=>([[],[],[1],[2],[3],[],[5],[6],[4,7],[0],[9],[8,10]]:List (List Nat)).getD i []) [8,11] (fun i=>([1,0,0,0,0,0,0,0,0,1,1,0]:List Nat).getD i 0) (fun zz=>([.pointer (some ⟨gf,0,none⟩),.pointer (some ⟨gf,0,none⟩),.pointer (some ⟨gf,0,none⟩),.pointer (some ⟨gf,0,none⟩),.slice A l.length c,.pointer (some ⟨b,o,none⟩),.pointer (some ⟨b,o,none⟩),.string x,.bool false,.pointer (some ⟨gf,0,none⟩),.pointer (some ⟨gf,0,none⟩),.bool false]:List Value).getD zz (.bool false)) (LfS (LfD0 E N w l A c b o (.string x)) (LfD1 E N w l' A l.length c) (LfD2 E N w l')) rfl (by kernel_rfl) (by rfl) (by kernel_rfl) ?_ ?_ ?_ ?_
 ·exact⟨HS.out.1.kp ((Kp.refl (fun _=>False) w).drew) (fun h=>h),own_kp HS.out.2.1 ((Kp.refl (fun _=>False) w).drew) (fun _ _ h=>h),HS.out.2.2.1,HS.out.2.2.2.drew⟩
 ·intro zi hzi hn zo ho k vs w1 hk hlow hS hvs
  rcases (show zi=0 ∨ zi=1 ∨ zi=2 ∨ zi=3 ∨ zi=4 ∨ zi=5 ∨ zi=6 ∨ zi=7 ∨ zi=8 ∨ zi=9 ∨ zi=10 ∨ zi=11 by omega) with rfl | rfl | rfl | rfl | rfl | rfl | rfl | rfl | rfl | rfl | rfl | rfl <;> cases ho
  ·clear hS hvs hlow hk hn
   change Sem.run _ (execOp (Act.eval (frm _ _ _ [])) _) _=_
   simp only[frm]
   go_simp
  ·clear hS hvs hlow hk hn
   change Sem.run _ (execOp (Act.eval (frm _ _ _ [])) _) _=_
   simp only[frm]
   go_simp
  ·have h1:vs 1=.pointer (some ⟨gf,0,none⟩):=hvs 1 (by decide) (by decide)
   clear hS hvs hlow hk hn
   change Sem.run _ (execOp (Act.eval (Act.put (frm _ _ _ []) (some 17) (vs 1))) _) _=_
   simp only[frm,h1]
   go_simp
  ·have h2:vs 2=.pointer (some ⟨gf,0,none⟩):=hvs 2 (by decide) (by decide)
   clear hS hvs hlow hk hn
   change Sem.run _ (execOp (Act.eval (Act.put (frm _ _ _ []) (some 18) (vs 2))) _) _=_
   simp only[frm,h2]
   go_simp
  ·have h3:vs 3=.pointer (some ⟨gf,0,none⟩):=hvs 3 (by decide) (by decide)
   replace hk:k≤0:=hk
   obtain rfl:k=0:=by omega
   replace hS:LfD0 E N w l A c b o (.string x) w1:=hS
   have c0:w1.cell? ⟨gf,0,none⟩=some (.slice A l.length c):=by rw[HGF.out];exact hS.1.cell 0
   clear hS hvs hlow hk hn
   change Sem.run _ (execOp (Act.eval (Act.put (frm _ _ _ []) (some 19) (vs 3))) _) _=_
   simp only[frm,h3]
   go_simp
  ·clear hS hvs hlow hk hn
   change Sem.run _ (execOp (Act.eval (frm _ _ _ [])) _) _=_
   simp only[frm]
   go_simp
  ·have h5:vs 5=.pointer (some ⟨b,o,none⟩):=hvs 5 (by decide) (by decide)
   clear hS hvs hlow hk hn
   change Sem.run _ (execOp (Act.eval (Act.put (frm _ _ _ []) (some 21) (vs 5))) _) _=_
   simp only[frm,h5]
   go_simp
  ·have h6:vs 6=.pointer (some ⟨b,o,none⟩):=hvs 6 (by decide) (by decide)
   replace hk:k≤0:=hk
   obtain rfl:k=0:=by omega
   replace hS:LfD0 E N w l A c b o (.string x) w1:=hS
   have c0:=hS.2.2.1
   clear hS hvs hlow hk hn
   change Sem.run _ (execOp (Act.eval (Act.put (frm _ _ _ []) (some 22) (vs 6))) _) _=_
   simp only[frm,h6]
   go_simp
  ·exact absurd (by decide) hn
  ·have h0:vs 0=.pointer (some ⟨gf,0,none⟩):=hvs 0 (by decide) (by decide)
   clear hS hvs hlow hk hn
   change Sem.run _ (execOp (Act.eval (Act.put (frm _ _ _ []) (some 16) (vs 0))) _) _=_
   simp only[frm,h0]
   go_simp
  ·have h9:vs 9=.pointer (some ⟨gf,0,none⟩):=hvs 9 (by decide) (by decide)
   clear hS hvs hlow hk hn
   change Sem.run _ (execOp (Act.eval (Act.put (frm _ _ _ []) (some 25) (vs 9))) _) _=_
   simp only[frm,h9]
   go_simp
  ·exact absurd (by decide) hn
 ·intro p hp o ho vs w1 hS hvs
  rcases (show p=0 ∨ p=1 by change p < 2 at hp;omega) with rfl | rfl <;> cases ho
  ·replace hS:LfD0 E N w l A c b o (.string x) w1:=hS
   have h4:vs 4=.slice A l.length c:=hvs 4 (by decide) (by decide)
   have h7:vs 7=.string x:=hvs 7 (by decide) (by decide)
   show Made _ (LfD1 E N w l' A l.length c) _
   change Made _ _ (Sem.run _ (execOp (Act.eval (Act.put (Act.put (frm _ _ _ []) (some 23) (vs 7)) (some 20) (vs 4))) _) _)
   simp only[frm,h4,h7]
   have hl:=HL.out.1
   have cM:=AppendString_any (s:=x) hS.2.1 (Nat.zero_le _) (by have:=encS_sz x;omega) (by omega)
   have hnl:∀ k,N k→k < w1.heap.size:=fun k hk=>Nat.lt_of_lt_of_le (HN.out.2.2.1 k hk) hS.2.2.2.size
   rw[← HL.out.2] at cM
   have HS1:=lh hS
   have HNL:=lh hnl
   clear hS hvs hnl hl
   go_simp
   exact HS1.out.call HN.out.1 HNL.out cM
  ·replace hS:LfD1 E N w l' A l.length c (vs 8) w1:=hS
   have h10:vs 10=.pointer (some ⟨gf,0,none⟩):=hvs 10 (by decide) (by decide)
   show Made _ (fun _=>LfD2 E N w l') _
   change Made _ _ (Sem.run _ (execOp (Act.eval (Act.put (Act.put (frm _ _ _ []) (some 26) (vs 10)) (some 24) (vs 8))) _) _)
   obtain⟨V,hV⟩:∃ V,V=vs 8:=⟨_,rfl⟩
   rw[← hV] at hS ⊢
   obtain⟨A',c',rfl,_⟩:=own_shape hS.2.1
   simp only[frm,h10,← hV]
   have c0:w1.cell? ⟨gf,0,none⟩=some (.slice A l.length c):=by rw[HGF.out];exact hS.1.cell 0
   have f0:w1.frozen? ⟨gf,0,none⟩=false:=by rw[HGF.out];exact hS.1.free 0
   have HS1:=lh hS
   clear hS hvs hV
   go_simp
   have h9:=HS1.out.store HN.out.2.1
   rw[← HGF.out] at h9
   exact made_skip (T:=fun _=>LfD2 E N w l') h9
 ·intro vs w5 hS hvs
  replace hS:LfD2 E N w l' w5:=hS
  change wpList _ _ _ [] (Act.put (Act.put (Act.put (Act.put (Act.put (Act.put (Act.put (Act.put (Act.put (Act.put (Act.put (Act.put (frm _ _ _ []) none (vs 11)) (some 26) (vs 10)) (some 25) (vs 9)) (some 24) (vs 8)) (some 23) (vs 7)) (some 22) (vs 6)) (some 21) (vs 5)) (some 20) (vs 4)) (some 19) (vs 3)) (some 18) (vs 2)) (some 17) (vs 1)) (some 16) (vs 0)) _
  simp only[frm]
  clear hvs
  generalize vs 0=z0
  generalize vs 1=z1
  generalize vs 2=z2
  generalize vs 3=z3
  generalize vs 4=z4
  generalize vs 5=z5
  generalize vs 6=z6
  generalize vs 7=z7
  generalize vs 8=z8
  generalize vs 9=z9
  generalize vs 10=z10
  generalize vs 11=z11
  have HS5:=lh hS
  clear hS
  go_wp2_with fail
  go_end0
  refine⟨rfl,HS5.out.fm HN.out.2.1 HN.out.2.2.1,HH.out.kp HS5.out.kp (fun h=>h HN.out.2.2.2),?_⟩
  unfold Fr
  rw[frS_true]
  exact HS5.out.kp
set_option maxHeartbeats 4000000 in
theorem Txt_r (hF:Fm E N w (.r rd)) (hH:Hd E N t b pre post false w [.string x]) (ho:pre.length=o):Calls Tryz.prog 52 #[.pointer (some ⟨E.gf,0,none⟩),.pointer (some ⟨b,o,none⟩)] w (StP E N t b pre post (.r ((Rd.text 4096) rd).2) false [.string ((Rd.text 4096) rd).1] w):=by
 obtain⟨hbk,hr,hgg,hbb⟩:=hF
 obtain⟨gf,hgf⟩:∃ gf,gf=E.gf:=⟨_,rfl⟩
 obtain⟨g,hg⟩:∃ g,g=E.g:=⟨_,rfl⟩
 have c1:w.cell? ⟨gf,1,none⟩=some (.pointer (some ⟨g,0,none⟩)):=by rw[hgf,hg];exact hbk.cell 1
 have hlt:gf < w.heap.size:=by rw[hgf];exact hbk.lt
 have hB:=hH
 unfold Hd at hB
 rw[if_neg (by simp)] at hB
 obtain⟨hbm,n1,n2,n3⟩:=hB
 have cM:=String_any hr hbb
 obtain⟨⟨y,r2⟩,hy⟩:∃ p,p=(Rd.text 4096) rd:=⟨_,rfl⟩
 rw[← hy] at cM
 rw[← hgf,← hy]
 dsimp only at cM ⊢
 rw[← hg] at cM
 have HGF:=lh (And.intro hgf hg)
 have HB:=lh (And.intro hbk (And.intro hbm (And.intro n1 (And.intro n2 (And.intro n3 (And.intro hgg hbb))))))
 have HO:=lh ho
 clear hbk hr hgg hbb hgf hg hy hH hbm n1 n2 n3 ho
 go_enter Tryz.func52,Tryz.ntmps52
 go_wp2_with fail
 refine cM.mono ?_
 rintro e w1 ⟨rfl,hr1,hk1⟩
 have hbm1:=HB.out.2.1.kp hk1 (by rw[HGF.out.2];exact HB.out.2.2.2.1)
 have hbk1:=HB.out.1.kp hk1 (by rw[HGF.out.2];exact HB.out.2.2.2.2.2.1)
 have x0:w1.cell? ⟨b,o,none⟩=some (.string x):=by rw[hbm1.cell,← HO.out];simp
 have f0:w1.frozen? ⟨b,o,none⟩=false:=hbm1.free o
 have H1:=lh (And.intro hr1 (And.intro hk1 (And.intro hbm1 hbk1)))
 clear cM hr1 hk1 hbm1 hbk1 c1
 go_wp2_with fail
 refine bodyPost_ret (results_none rfl _ _ _) rfl ?_
 have hk2:Kp (fun k=>k=b) w1 (w1.setCell ⟨b,o,none⟩ (.string y)):=Kp.setCell (S:=fun k=>k=b) w1 ⟨b,o,none⟩ _ rfl
 refine⟨rfl,⟨H1.out.2.2.2.kp hk2 (fun e=>HB.out.2.2.1 e.symm),?_,HB.out.2.2.2.2.2.1,Nat.lt_of_lt_of_le HB.out.2.2.2.2.2.2 (Nat.le_trans H1.out.2.1.size hk2.size)⟩,?_,?_⟩
 ·have:=H1.out.1
  rw[HGF.out.2] at this
  exact this.kp hk2 (fun e=>HB.out.2.2.2.1 e.symm) (fun e=>HB.out.2.2.2.2.1 e.symm)
 ·unfold Hd
  rw[if_neg (by simp)]
  have:=bk_mid (y:=.string y) H1.out.2.2.1
  rw[HO.out] at this
  exact⟨this,HB.out.2.2.1,HB.out.2.2.2.1,HB.out.2.2.2.2.1⟩
 ·unfold Fr
  rw[frS_false]
  have:=H1.out.2.1
  rw[HGF.out.2] at this
  exact(this.mono fun _ _ h=>.inl h).trans hk2 fun _ _ h=>.inr h
theorem Txt_any (hF:Fm E N w s) (hH:Hd E N t b pre post s.md w [.string x]) (ho:pre.length=o) (hx:True) (hl:s.fit (encS x).length):Calls Tryz.prog 52 #[.pointer (some ⟨E.gf,0,none⟩),.pointer (some ⟨b,o,none⟩)] w (StP E N t b pre post (stp encS (Rd.text 4096) s x).1 s.md [.string (stp encS (Rd.text 4096) s x).2] w):=by
 cases s with
 | w l=>exact Txt_w hF hH ho hx hl
 | r rd=>exact Txt_r hF hH ho
end
section
variable {E:Env} {N:Nat→Prop} {t:TypeId} {b o:Nat} {pre post:List Value} {w:World} {l:List Int} {rd:Rd} {s:Fs} {x:Bool}
set_option maxHeartbeats 4000000 in
theorem Flg_w (hF:Fm E N w (.w l)) (hH:Hd E N t b pre post true w [.bool x]) (ho:pre.length=o) (hx:True) (hl:l.length+(encB x).length≤2147483648):Calls Tryz.prog 70 #[.pointer (some ⟨E.gf,0,none⟩),.pointer (some ⟨b,o,none⟩)] w (StP E N t b pre post (.w (l++encB x)) true [.bool x] w):=by
 obtain⟨A,c,hbk,hw,hN,hgN,hNl⟩:=hF
 have hc:=(hH.cell (j:=0) rfl).1
 have hb:N b:=by unfold Hd at hH;rw[if_pos rfl] at hH;exact hH.1
 rw[Nat.add_zero,ho] at hc
 obtain⟨gf,hgf⟩:∃ gf,gf=E.gf:=⟨_,rfl⟩
 have c0:w.cell? ⟨gf,0,none⟩=some (.slice A l.length c):=by rw[hgf];exact hbk.cell 0
 have c1:w.cell? ⟨gf,1,none⟩=some (.pointer none):=by rw[hgf];exact hbk.cell 1
 have hlt:gf < w.heap.size:=by rw[hgf];exact hbk.lt
 have HS:Hid (LfD0 E N w l A c b o (.bool x) w):=lh ⟨hbk,hw,hc,Kp.refl _ _⟩
 have HH:=lh hH
 have HN:=lh (And.intro hN (And.intro hgN (And.intro hNl hb)))
 obtain⟨l',hl'⟩:∃ l',l'=l++encB x:=⟨_,rfl⟩
 rw[← hl',← hgf]
 have HGF:=lh hgf
 have HL:=lh (And.intro hl hl')
 clear hbk hw hN hgN hNl hH hc hb hl' hgf
 go_enter Tryz.func70,Tryz.ntmps70
 go_upto_region 2 with fail
 clear c0 c1
 refine wp_seq 12 (fun i=>([[],[],[1],[2],[3],[],[5],[6],[4,7],[0],[9],[8,10]]:List (List Nat)).getD i []) [8,11] (fun i=>([1,0,0,0,0,0,0,0,0,1,1,0]:List Nat).getD i 0) (fun zz=>([.pointer (some ⟨gf,0,none⟩),.pointer (some ⟨gf,0,none⟩),.pointer (some ⟨gf,0,none⟩),.pointer (some ⟨gf,0,none⟩),.slice A l.length c,.pointer (some ⟨b,o,none⟩),.pointer (some ⟨b,o,none⟩),.bool x,.bool false,.pointer (some ⟨gf,0,none⟩),.pointer (some ⟨gf,0,none⟩),.bool false]:List Value).getD zz (.bool false)) (LfS (LfD0 E N w l A c b o (.bool x)) (LfD1 E N w l' A l.length c) (LfD2 E N w l')) rfl (by kernel_rfl) (by rfl) (by kernel_rfl) ?_ ?_ ?_ ?_
 ·exact⟨HS.out.1.kp ((Kp.refl (fun _=>False) w).drew) (fun h=>h),own_kp HS.out.2.1 ((Kp.refl (fun _=>False) w).drew) (fun _ _ h=>h),HS.out.2.2.1,HS.out.2.2.2.drew⟩
 ·intro zi hzi hn zo ho k vs w1 hk hlow hS hvs
  rcases (show zi=0 ∨ zi=1 ∨ zi=2 ∨ zi=3 ∨ zi=4 ∨ zi=5 ∨ zi=6 ∨ zi=7 ∨ zi=8 ∨ zi=9 ∨ zi=10 ∨ zi=11 by omega) with rfl | rfl | rfl | rfl | rfl | rfl | rfl | rfl | rfl | rfl | rfl | rfl <;> cases ho
  ·clear hS hvs hlow hk hn
   change Sem.run _ (execOp (Act.eval (frm _ _ _ [])) _) _=_
   simp only[frm]
   go_simp
  ·clear hS hvs hlow hk hn
   change Sem.run _ (execOp (Act.eval (frm _ _ _ [])) _) _=_
   simp only[frm]
   go_simp
  ·have h1:vs 1=.pointer (some ⟨gf,0,none⟩):=hvs 1 (by decide) (by decide)
   clear hS hvs hlow hk hn
   change Sem.run _ (execOp (Act.eval (Act.put (frm _ _ _ []) (some 17) (vs 1))) _) _=_
   simp only[frm,h1]
   go_simp
  ·have h2:vs 2=.pointer (some ⟨gf,0,none⟩):=hvs 2 (by decide) (by decide)
   clear hS hvs hlow hk hn
   change Sem.run _ (execOp (Act.eval (Act.put (frm _ _ _ []) (some 18) (vs 2))) _) _=_
   simp only[frm,h2]
   go_simp
  ·have h3:vs 3=.pointer (some ⟨gf,0,none⟩):=hvs 3 (by decide) (by decide)
   replace hk:k≤0:=hk
   obtain rfl:k=0:=by omega
   replace hS:LfD0 E N w l A c b o (.bool x) w1:=hS
   have c0:w1.cell? ⟨gf,0,none⟩=some (.slice A l.length c):=by rw[HGF.out];exact hS.1.cell 0
   clear hS hvs hlow hk hn
   change Sem.run _ (execOp (Act.eval (Act.put (frm _ _ _ []) (some 19) (vs 3))) _) _=_
   simp only[frm,h3]
   go_simp
  ·clear hS hvs hlow hk hn
   change Sem.run _ (execOp (Act.eval (frm _ _ _ [])) _) _=_
   simp only[frm]
   go_simp
  ·have h5:vs 5=.pointer (some ⟨b,o,none⟩):=hvs 5 (by decide) (by decide)
   clear hS hvs hlow hk hn
   change Sem.run _ (execOp (Act.eval (Act.put (frm _ _ _ []) (some 21) (vs 5))) _) _=_
   simp only[frm,h5]
   go_simp
  ·have h6:vs 6=.pointer (some ⟨b,o,none⟩):=hvs 6 (by decide) (by decide)
   replace hk:k≤0:=hk
   obtain rfl:k=0:=by omega
   replace hS:LfD0 E N w l A c b o (.bool x) w1:=hS
   have c0:=hS.2.2.1
   clear hS hvs hlow hk hn
   change Sem.run _ (execOp (Act.eval (Act.put (frm _ _ _ []) (some 22) (vs 6))) _) _=_
   simp only[frm,h6]
   go_simp
  ·exact absurd (by decide) hn
  ·have h0:vs 0=.pointer (some ⟨gf,0,none⟩):=hvs 0 (by decide) (by decide)
   clear hS hvs hlow hk hn
   change Sem.run _ (execOp (Act.eval (Act.put (frm _ _ _ []) (some 16) (vs 0))) _) _=_
   simp only[frm,h0]
   go_simp
  ·have h9:vs 9=.pointer (some ⟨gf,0,none⟩):=hvs 9 (by decide) (by decide)
   clear hS hvs hlow hk hn
   change Sem.run _ (execOp (Act.eval (Act.put (frm _ _ _ []) (some 25) (vs 9))) _) _=_
   simp only[frm,h9]
   go_simp
  ·exact absurd (by decide) hn
 ·intro p hp o ho vs w1 hS hvs
  rcases (show p=0 ∨ p=1 by change p < 2 at hp;omega) with rfl | rfl <;> cases ho
  ·replace hS:LfD0 E N w l A c b o (.bool x) w1:=hS
   have h4:vs 4=.slice A l.length c:=hvs 4 (by decide) (by decide)
   have h7:vs 7=.bool x:=hvs 7 (by decide) (by decide)
   show Made _ (LfD1 E N w l' A l.length c) _
   change Made _ _ (Sem.run _ (execOp (Act.eval (Act.put (Act.put (frm _ _ _ []) (some 23) (vs 7)) (some 20) (vs 4))) _) _)
   simp only[frm,h4,h7]
   have hl:=HL.out.1
   have cM:=AppendBool_any (x:=x) hS.2.1 (Nat.zero_le _) (by omega)
   have hnl:∀ k,N k→k < w1.heap.size:=fun k hk=>Nat.lt_of_lt_of_le (HN.out.2.2.1 k hk) hS.2.2.2.size
   rw[← HL.out.2] at cM
   have HS1:=lh hS
   have HNL:=lh hnl
   clear hS hvs hnl hl
   go_simp
   exact HS1.out.call HN.out.1 HNL.out cM
  ·replace hS:LfD1 E N w l' A l.length c (vs 8) w1:=hS
   have h10:vs 10=.pointer (some ⟨gf,0,none⟩):=hvs 10 (by decide) (by decide)
   show Made _ (fun _=>LfD2 E N w l') _
   change Made _ _ (Sem.run _ (execOp (Act.eval (Act.put (Act.put (frm _ _ _ []) (some 26) (vs 10)) (some 24) (vs 8))) _) _)
   obtain⟨V,hV⟩:∃ V,V=vs 8:=⟨_,rfl⟩
   rw[← hV] at hS ⊢
   obtain⟨A',c',rfl,_⟩:=own_shape hS.2.1
   simp only[frm,h10,← hV]
   have c0:w1.cell? ⟨gf,0,none⟩=some (.slice A l.length c):=by rw[HGF.out];exact hS.1.cell 0
   have f0:w1.frozen? ⟨gf,0,none⟩=false:=by rw[HGF.out];exact hS.1.free 0
   have HS1:=lh hS
   clear hS hvs hV
   go_simp
   have h9:=HS1.out.store HN.out.2.1
   rw[← HGF.out] at h9
   exact made_skip (T:=fun _=>LfD2 E N w l') h9
 ·intro vs w5 hS hvs
  replace hS:LfD2 E N w l' w5:=hS
  change wpList _ _ _ [] (Act.put (Act.put (Act.put (Act.put (Act.put (Act.put (Act.put (Act.put (Act.put (Act.put (Act.put (Act.put (frm _ _ _ []) none (vs 11)) (some 26) (vs 10)) (some 25) (vs 9)) (some 24) (vs 8)) (some 23) (vs 7)) (some 22) (vs 6)) (some 21) (vs 5)) (some 20) (vs 4)) (some 19) (vs 3)) (some 18) (vs 2)) (some 17) (vs 1)) (some 16) (vs 0)) _
  simp only[frm]
  clear hvs
  generalize vs 0=z0
  generalize vs 1=z1
  generalize vs 2=z2
  generalize vs 3=z3
  generalize vs 4=z4
  generalize vs 5=z5
  generalize vs 6=z6
  generalize vs 7=z7
  generalize vs 8=z8
  generalize vs 9=z9
  generalize vs 10=z10
  generalize vs 11=z11
  have HS5:=lh hS
  clear hS
  go_wp2_with fail
  go_end0
  refine⟨rfl,HS5.out.fm HN.out.2.1 HN.out.2.2.1,HH.out.kp HS5.out.kp (fun h=>h HN.out.2.2.2),?_⟩
  unfold Fr
  rw[frS_true]
  exact HS5.out.kp
set_option maxHeartbeats 4000000 in
theorem Flg_r (hF:Fm E N w (.r rd)) (hH:Hd E N t b pre post false w [.bool x]) (ho:pre.length=o):Calls Tryz.prog 70 #[.pointer (some ⟨E.gf,0,none⟩),.pointer (some ⟨b,o,none⟩)] w (StP E N t b pre post (.r (Rd.bool rd).2) false [.bool (Rd.bool rd).1] w):=by
 obtain⟨hbk,hr,hgg,hbb⟩:=hF
 obtain⟨gf,hgf⟩:∃ gf,gf=E.gf:=⟨_,rfl⟩
 obtain⟨g,hg⟩:∃ g,g=E.g:=⟨_,rfl⟩
 have c1:w.cell? ⟨gf,1,none⟩=some (.pointer (some ⟨g,0,none⟩)):=by rw[hgf,hg];exact hbk.cell 1
 have hlt:gf < w.heap.size:=by rw[hgf];exact hbk.lt
 have hB:=hH
 unfold Hd at hB
 rw[if_neg (by simp)] at hB
 obtain⟨hbm,n1,n2,n3⟩:=hB
 have cM:=Bool_any hr hbb
 obtain⟨⟨y,r2⟩,hy⟩:∃ p,p=Rd.bool rd:=⟨_,rfl⟩
 rw[← hy] at cM
 rw[← hgf,← hy]
 dsimp only at cM ⊢
 rw[← hg] at cM
 have HGF:=lh (And.intro hgf hg)
 have HB:=lh (And.intro hbk (And.intro hbm (And.intro n1 (And.intro n2 (And.intro n3 (And.intro hgg hbb))))))
 have HO:=lh ho
 clear hbk hr hgg hbb hgf hg hy hH hbm n1 n2 n3 ho
 go_enter Tryz.func70,Tryz.ntmps70
 go_wp2_with fail
 refine cM.mono ?_
 rintro e w1 ⟨rfl,hr1,hk1⟩
 have hbm1:=HB.out.2.1.kp hk1 (by rw[HGF.out.2];exact HB.out.2.2.2.1)
 have hbk1:=HB.out.1.kp hk1 (by rw[HGF.out.2];exact HB.out.2.2.2.2.2.1)
 have x0:w1.cell? ⟨b,o,none⟩=some (.bool x):=by rw[hbm1.cell,← HO.out];simp
 have f0:w1.frozen? ⟨b,o,none⟩=false:=hbm1.free o
 have H1:=lh (And.intro hr1 (And.intro hk1 (And.intro hbm1 hbk1)))
 clear cM hr1 hk1 hbm1 hbk1 c1
 go_wp2_with fail
 refine bodyPost_ret (results_none rfl _ _ _) rfl ?_
 have hk2:Kp (fun k=>k=b) w1 (w1.setCell ⟨b,o,none⟩ (.bool y)):=Kp.setCell (S:=fun k=>k=b) w1 ⟨b,o,none⟩ _ rfl
 refine⟨rfl,⟨H1.out.2.2.2.kp hk2 (fun e=>HB.out.2.2.1 e.symm),?_,HB.out.2.2.2.2.2.1,Nat.lt_of_lt_of_le HB.out.2.2.2.2.2.2 (Nat.le_trans H1.out.2.1.size hk2.size)⟩,?_,?_⟩
 ·have:=H1.out.1
  rw[HGF.out.2] at this
  exact this.kp hk2 (fun e=>HB.out.2.2.2.1 e.symm) (fun e=>HB.out.2.2.2.2.1 e.symm)
 ·unfold Hd
  rw[if_neg (by simp)]
  have:=bk_mid (y:=.bool y) H1.out.2.2.1
  rw[HO.out] at this
  exact⟨this,HB.out.2.2.1,HB.out.2.2.2.1,HB.out.2.2.2.2.1⟩
 ·unfold Fr
  rw[frS_false]
  have:=H1.out.2.1
  rw[HGF.out.2] at this
  exact(this.mono fun _ _ h=>.inl h).trans hk2 fun _ _ h=>.inr h
theorem Flg_any (hF:Fm E N w s) (hH:Hd E N t b pre post s.md w [.bool x]) (ho:pre.length=o) (hx:True) (hl:s.fit (encB x).length):Calls Tryz.prog 70 #[.pointer (some ⟨E.gf,0,none⟩),.pointer (some ⟨b,o,none⟩)] w (StP E N t b pre post (stp encB Rd.bool s x).1 s.md [.bool (stp encB Rd.bool s x).2] w):=by
 cases s with
 | w l=>exact Flg_w hF hH ho hx hl
 | r rd=>exact Flg_r hF hH ho
end
end
end Go.Proofs.YtmbnlccafcfbeaaGreatDoor
