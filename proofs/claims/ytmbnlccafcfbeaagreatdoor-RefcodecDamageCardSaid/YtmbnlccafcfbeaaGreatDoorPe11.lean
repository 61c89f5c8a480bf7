/- Parts of the proof: RcL0, RcL1. -/
import Derived.Test.YtmbnlccafcfbeaaGreatDoorPeA
import Derived.Test.YtmbnlccafcfbeaaGreatDoorPe10
set_option linter.unusedVariables false
set_option linter.unusedSimpArgs false
set_option linter.unusedSectionVars false
set_option maxRecDepth 100000
namespace Go.Proofs.YtmbnlccafcfbeaaGreatDoor
section
open Go.RowKit
/-- how a value lies in memory: by mode (true: it came in, and is written; false: it was read) and by what is protected -/
abbrev Rel (α:Type):=Bool→(Nat→Prop)→World→α→List Value→Prop
structure RK {α:Type} (R:Rel α) (bad:TypeId→Prop):Prop where
 wr:∀ {N:Nat→Prop} {w w':World} {x:α} {r:List Value},R true N w x r→Kp (fun k=>¬ N k) w w'→R true N w' x r
 rd:∀ {N S:Nat→Prop} {w w':World} {x:α} {r:List Value},R false N w x r→Kp S w w'→(∀ k,S k→∃ t cs,Bk w k t cs∧¬ bad t)→R false N w' x r
def flat {α:Type} (cells:α→List Value):Rel α:=fun _ _ _ x r=>r=cells x
theorem flat_rk {α:Type} (cells:α→List Value):RK (flat cells) fun _=>False:=⟨fun h _=>h,fun h _ _=>h⟩
def LsR {α:Type} (R:Rel α) (tE:TypeId) (sz:Nat) (m:Bool) (N:Nat→Prop) (w:World) (A:Option Addr) (c:Nat) (l:List α):Prop :=
 if m=true then l.length≤c∧l.length≤140737488351232∧(l.length=0 ∨ ∃ b o,A=some ⟨b,o,none⟩∧N b∧∀ i x,l[i]?=some x→∃ r:List Value,r.length=sz∧R true N w x r∧∀ j v,r[j]?=some v→w.cell? ⟨b,o+i*sz+j,none⟩=some v∧w.frozen? ⟨b,o+i*sz+j,none⟩=false)
 else ∃ xs,w.ownsRow 0 tE sz (.slice A l.length c) l.length xs∧Els (R false N) sz w l xs
section
variable {α:Type} {R:Rel α} {bad:TypeId→Prop} {tE:TypeId} {sz:Nat} {N S:Nat→Prop} {w w':World} {A:Option Addr} {c:Nat} {l:List α}
theorem LsR.wr (hR:RK R bad) (h:LsR R tE sz true N w A c l) (hk:Kp (fun k=>¬ N k) w w'):LsR R tE sz true N w' A c l:=by
 unfold LsR at h ⊢
 rw[if_pos rfl] at h ⊢
 refine⟨h.1,h.2.1,?_⟩
 rcases h.2.2 with h0 | ⟨b,o,hA,hb,hc⟩
 ·exact .inl h0
 ·refine .inr ⟨b,o,hA,hb,fun i x hx=>?_⟩
  obtain⟨r,h1,h2,h3⟩:=hc i x hx
  refine⟨r,h1,hR.wr h2 hk,fun j v hv=>?_⟩
  obtain⟨g1,g2⟩:=h3 j v hv
  refine⟨hk.cell g1 (fun h=>h hb),?_⟩
  rw[frozen_of_block (hk.block b (cell_lt g1) (fun h=>h hb))]
  exact g2
theorem LsR.rd (hR:RK R bad) (h:LsR R tE sz false N w A c l) (hk:Kp S w w') (hS:∀ k,S k→∃ t cs,Bk w k t cs∧t≠tE∧¬ bad t):LsR R tE sz false N w' A c l:=by
 unfold LsR at h ⊢
 rw[if_neg (by simp)] at h ⊢
 obtain⟨xs,h1,h2⟩:=h
 exact⟨xs,own_kpT h1 hk (fun k hk=>let ⟨t,cs,a,b,_⟩:=hS k hk;⟨t,cs,a,b⟩),h2.mono fun x r hx=>hR.rd hx hk fun k hk=>let ⟨t,cs,a,_,b⟩:=hS k hk;⟨t,cs,a,b⟩⟩
theorem LsR.nil:LsR R tE sz false N w none 0 ([]:List α):=by
 unfold LsR
 rw[if_neg (by simp)]
 exact⟨[],World.ownsRow_nil _ _ _ _,Els.nil _ _ _⟩
end
/-- what a method of the form leaves at a place that may refer to rows -/
def CpP {α:Type} (E:Env) (N:Nat→Prop) (t:TypeId) (b:Nat) (pre post:List Value) (s':Fs) (m:Bool) (R:Rel α) (x':α) (w:World) (e:Ending) (w':World):Prop :=
 e=.returned (.tuple #[])∧Fm E N w' s'∧(∃ r',R m N w' x' r'∧Hd E N t b pre post m w' r')∧Fr E N b m w w'
def LsP {α:Type} (E:Env) (N:Nat→Prop) (t:TypeId) (b:Nat) (pre post:List Value) (s':Fs) (m:Bool) (R:Rel α) (tE:TypeId) (sz:Nat) (l':List α) (w:World) (e:Ending) (w':World):Prop :=
 e=.returned (.tuple #[])∧Fm E N w' s'∧(∃ A c,LsR R tE sz m N w' A c l'∧Hd E N t b pre post m w' [.slice A l'.length c])∧Fr E N b m w w'
theorem StP.cp {α:Type} {E:Env} {N:Nat→Prop} {t:TypeId} {b:Nat} {pre post:List Value} {s':Fs} {m:Bool} {cells:α→List Value} {x':α} {w w':World} {e:Ending} (h:StP E N t b pre post s' m (cells x') w e w'):CpP E N t b pre post s' m (flat cells) x' w e w':=⟨h.1,h.2.1,⟨_,rfl,h.2.2.1⟩,h.2.2.2⟩
def rfC (x:Rf):List Value:=[.int .i64 x.kind,.int .i64 x.int,.int .i64 x.owner,.int .u64 x.number,.int .i64 x.idm,.int .i64 x.ids,.int .i64 x.cls,.bool x.weak]
def inC (x:In):List Value:=[.int .i64 x.client,.int .u64 x.number,.int .i64 x.out]
def ndC (x:Nd):List Value:=[.int .i64 x.peer,.int .u64 x.number,.int .i64 x.stamp]
section
variable {E:Env} {N:Nat→Prop} {t:TypeId} {b o:Nat} {pre post r:List Value} {w:World} {s:Fs}
theorem rfE_any {x:Rf} (hF:Fm E N w s) (hR:flat rfC s.md N w x r) (hH:Hd E N t b pre post s.md w r) (ho:pre.length=o) (hx:rfP x) (hf:s.fit (encRf x).length):Calls Tryz.prog 42 #[.pointer (some ⟨E.gf,0,none⟩),.pointer (some ⟨b,o,none⟩)] w (CpP E N t b pre post (stp encRf decRf s x).1 s.md (flat rfC) (stp encRf decRf s x).2 w):=by
 unfold flat at hR
 subst hR
 exact(ref_any hF hH ho hx hf).mono fun e w' h=>StP.cp h
theorem inE_any {x:In} (hF:Fm E N w s) (hR:flat inC s.md N w x r) (hH:Hd E N t b pre post s.md w r) (ho:pre.length=o) (hx:inP x) (hf:s.fit (encIn x).length):Calls Tryz.prog 119 #[.pointer (some ⟨E.gf,0,none⟩),.pointer (some ⟨b,o,none⟩)] w (CpP E N t b pre post (stp encIn decIn s x).1 s.md (flat inC) (stp encIn decIn s x).2 w):=by
 unfold flat at hR
 subst hR
 exact(inset_any hF hH ho hx hf).mono fun e w' h=>StP.cp h
theorem ndE_any {x:Nd} (hF:Fm E N w s) (hR:flat ndC s.md N w x r) (hH:Hd E N t b pre post s.md w r) (ho:pre.length=o) (hx:ndP x) (hf:s.fit (encNd x).length):Calls Tryz.prog 121 #[.pointer (some ⟨E.gf,0,none⟩),.pointer (some ⟨b,o,none⟩)] w (CpP E N t b pre post (stp encNd decNd s x).1 s.md (flat ndC) (stp encNd decNd s x).2 w):=by
 unfold flat at hR
 subst hR
 exact(need_any hF hH ho hx hf).mono fun e w' h=>StP.cp h
end
theorem encLt_take {α:Type} (enc:α→List Int) {l:List α} {k:Nat} {x:α} (h:l[k]?=some x):(l.take (k+1)).flatMap enc=(l.take k).flatMap enc++enc x:=by
 rw[List.take_add_one,h,List.flatMap_append];simp
theorem encLt_le {α:Type} (enc:α→List Int) {l:List α} {k:Nat} {x:α} (h:l[k]?=some x):(encU l.length).length+((l.take k).flatMap enc).length+(enc x).length≤(encL enc l).length:=by
 have e:l.flatMap enc=(l.take k).flatMap enc++(enc x++(l.drop (k+1)).flatMap enc):=by
  conv=>lhs;rw[← List.take_append_drop (k+1) l]
  rw[List.flatMap_append,encLt_take enc h,List.append_assoc]
 unfold encL
 rw[e]
 simp only[List.length_append]
 omega
end
section
open Go.RowKit
attribute [local go_sem] Oper.semAt_some
section
variable {E:Env} {N:Nat→Prop} {t:TypeId} {b o c:Nat} {A:Option Addr} {pre post:List Value} {w:World} {l0:List Int} {rd:Rd} {s:Fs} {l:List Rf}
set_option maxHeartbeats 8000000 in
theorem lsRf_w (hF:Fm E N w (.w l0)) (hL:LsR (flat rfC) 26 8 true N w A c l) (hH:Hd E N t b pre post true w [.slice A l.length c]) (ho:pre.length=o) (hx:∀ x∈l,rfP x) (hl:l0.length+(encL encRf l).length≤2147483648):Calls Tryz.prog 158 #[.pointer (some ⟨E.gf,0,none⟩),.pointer (some ⟨b,o,none⟩),.func (.func 42) #[.pointer (some ⟨E.gf,0,none⟩)] #[]] w (LsP E N t b pre post (.w (l0++encL encRf l)) true (flat rfC) 26 8 l w):=by
 have hLL:=hL
 unfold LsR at hLL
 rw[if_pos rfl] at hLL
 obtain⟨hlc,hln,hel⟩:=hLL
 obtain⟨A0,c0_,hbk,hw,hN,hgN,hNl⟩:=hF
 have hc:=(hH.cell (j:=0) rfl).1
 have hb:N b:=by unfold Hd at hH;rw[if_pos rfl] at hH;exact hH.1
 rw[Nat.add_zero,ho] at hc
 obtain⟨gf,hgf⟩:∃ gf,gf=E.gf:=⟨_,rfl⟩
 have c0:w.cell? ⟨gf,0,none⟩=some (.slice A0 l0.length c0_):=by rw[hgf];exact hbk.cell 0
 have c1:w.cell? ⟨gf,1,none⟩=some (.pointer none):=by rw[hgf];exact hbk.cell 1
 have hlt:gf < w.heap.size:=by rw[hgf];exact hbk.lt
 have HS:Hid (LfD0 E N w l0 A0 c0_ b o (.slice A l.length c) w):=lh ⟨hbk,hw,hc,Kp.refl _ _⟩
 have HH:=lh (And.intro hH (And.intro hL (And.intro hel hx)))
 have HN:=lh (And.intro hN (And.intro hgN (And.intro hNl hb)))
 have hwn:IntKind.u64.wrap (l.length:Int)=(l.length:Int):=by rw[IntKind.wrap_u64];omega
 have hul:(encU (l.length:Int)).length≤(encL encRf l).length:=by unfold encL;rw[List.length_append];omega
 obtain⟨l',hl'⟩:∃ l',l'=l0++encU (l.length:Int):=⟨_,rfl⟩
 rw[← hgf]
 have HGF:=lh hgf
 have HL:=lh (And.intro hl (And.intro hul hl'))
 have HO:=lh ho
 clear hbk hw hN hgN hNl hH hc hb hl' hgf hL hel hx hul hl ho
 go_enter Tryz.func158,Tryz.ntmps158
 go_upto_region 1 with fail
 clear c0 c1
 refine wp_seq 14 (fun i=>([[],[],[1],[2],[3],[],[5],[6],[7],[8],[4,9],[0],[11],[10,12]]:List (List Nat)).getD i []) [10,13] (fun i=>([1,0,0,0,0,0,0,0,0,0,0,1,1,0]:List Nat).getD i 0) (fun zz=>([.pointer (some ⟨gf,0,none⟩),.pointer (some ⟨gf,0,none⟩),.pointer (some ⟨gf,0,none⟩),.pointer (some ⟨gf,0,none⟩),.slice A0 l0.length c0_,.pointer (some ⟨b,o,none⟩),.pointer (some ⟨b,o,none⟩),.slice A l.length c,.int .i64 (l.length:Int),.int .u64 (l.length:Int),.bool false,.pointer (some ⟨gf,0,none⟩),.pointer (some ⟨gf,0,none⟩),.bool false]:List Value).getD zz (.bool false)) (LfS (LfD0 E N w l0 A0 c0_ b o (.slice A l.length c)) (LfD1 E N w l' A0 l0.length c0_) (LfD2 E N w l')) rfl (by kernel_rfl) (by rfl) (by kernel_rfl) ?_ ?_ ?_ ?_
 ·exact⟨HS.out.1.kp ((Kp.refl (fun _=>False) w).drew) (fun h=>h),own_kp HS.out.2.1 ((Kp.refl (fun _=>False) w).drew) (fun _ _ h=>h),HS.out.2.2.1,HS.out.2.2.2.drew⟩
 ·intro zi hzi hn zo ho k vs w1 hk hlow hS hvs
  rcases (show zi=0 ∨ zi=1 ∨ zi=2 ∨ zi=3 ∨ zi=4 ∨ zi=5 ∨ zi=6 ∨ zi=7 ∨ zi=8 ∨ zi=9 ∨ zi=10 ∨ zi=11 ∨ zi=12 ∨ zi=13 by omega) with rfl | rfl | rfl | rfl | rfl | rfl | rfl | rfl | rfl | rfl | rfl | rfl | rfl | rfl <;> cases ho
  ·clear hS hvs hlow hk hn
   change Sem.run _ (execOp (Act.eval (frm _ _ _ [])) _) _=_
   simp only[frm]
   go_simp
  ·clear hS hvs hlow hk hn
   change Sem.run _ (execOp (Act.eval (frm _ _ _ [])) _) _=_
   simp only[frm]
   go_simp
  ·have h1:vs 1=.pointer (some ⟨gf,0,none⟩):=hvs 1 (by decide) (by decide)
   clear hS hvs hlow hk hn
   change Sem.run _ (execOp (Act.eval (Act.put (frm _ _ _ []) (some 14) (vs 1))) _) _=_
   simp only[frm,h1]
   go_simp
  ·have h2:vs 2=.pointer (some ⟨gf,0,none⟩):=hvs 2 (by decide) (by decide)
   clear hS hvs hlow hk hn
   change Sem.run _ (execOp (Act.eval (Act.put (frm _ _ _ []) (some 15) (vs 2))) _) _=_
   simp only[frm,h2]
   go_simp
  ·have h3:vs 3=.pointer (some ⟨gf,0,none⟩):=hvs 3 (by decide) (by decide)
   replace hk:k≤0:=hk
   obtain rfl:k=0:=by omega
   replace hS:LfD0 E N w l0 A0 c0_ b o (.slice A l.length c) w1:=hS
   have c0:w1.cell? ⟨gf,0,none⟩=some (.slice A0 l0.length c0_):=by rw[HGF.out];exact hS.1.cell 0
   clear hS hvs hlow hk hn
   change Sem.run _ (execOp (Act.eval (Act.put (frm _ _ _ []) (some 16) (vs 3))) _) _=_
   simp only[frm,h3]
   go_simp
  ·clear hS hvs hlow hk hn
   change Sem.run _ (execOp (Act.eval (frm _ _ _ [])) _) _=_
   simp only[frm]
   go_simp
  ·have h5:vs 5=.pointer (some ⟨b,o,none⟩):=hvs 5 (by decide) (by decide)
   clear hS hvs hlow hk hn
   change Sem.run _ (execOp (Act.eval (Act.put (frm _ _ _ []) (some 18) (vs 5))) _) _=_
   simp only[frm,h5]
   go_simp
  ·have h6:vs 6=.pointer (some ⟨b,o,none⟩):=hvs 6 (by decide) (by decide)
   replace hk:k≤0:=hk
   obtain rfl:k=0:=by omega
   replace hS:LfD0 E N w l0 A0 c0_ b o (.slice A l.length c) w1:=hS
   have c0:=hS.2.2.1
   clear hS hvs hlow hk hn
   change Sem.run _ (execOp (Act.eval (Act.put (frm _ _ _ []) (some 19) (vs 6))) _) _=_
   simp only[frm,h6]
   go_simp
  ·have h7:vs 7=.slice A l.length c:=hvs 7 (by decide) (by decide)
   clear hS hvs hlow hk hn
   change Sem.run _ (execOp (Act.eval (Act.put (frm _ _ _ []) (some 20) (vs 7))) _) _=_
   simp only[frm,h7]
   go_simp
  ·have h8:vs 8=.int .i64 (l.length:Int):=hvs 8 (by decide) (by decide)
   clear hS hvs hlow hk hn
   change Sem.run _ (execOp (Act.eval (Act.put (frm _ _ _ []) (some 21) (vs 8))) _) _=_
   simp only[frm,h8]
   go_simp
  ·exact absurd (by decide) hn
  ·have h0:vs 0=.pointer (some ⟨gf,0,none⟩):=hvs 0 (by decide) (by decide)
   clear hS hvs hlow hk hn
   change Sem.run _ (execOp (Act.eval (Act.put (frm _ _ _ []) (some 13) (vs 0))) _) _=_
   simp only[frm,h0]
   go_simp
  ·have h11:vs 11=.pointer (some ⟨gf,0,none⟩):=hvs 11 (by decide) (by decide)
   clear hS hvs hlow hk hn
   change Sem.run _ (execOp (Act.eval (Act.put (frm _ _ _ []) (some 24) (vs 11))) _) _=_
   simp only[frm,h11]
   go_simp
  ·exact absurd (by decide) hn
 ·intro p hp o ho vs w1 hS hvs
  rcases (show p=0 ∨ p=1 by change p < 2 at hp;omega) with rfl | rfl <;> cases ho
  ·replace hS:LfD0 E N w l0 A0 c0_ b o (.slice A l.length c) w1:=hS
   have h4:vs 4=.slice A0 l0.length c0_:=hvs 4 (by decide) (by decide)
   have h9:vs 9=.int .u64 (l.length:Int):=hvs 9 (by decide) (by decide)
   show Made _ (LfD1 E N w l' A0 l0.length c0_) _
   change Made _ _ (Sem.run _ (execOp (Act.eval (Act.put (Act.put (frm _ _ _ []) (some 22) (vs 9)) (some 17) (vs 4))) _) _)
   simp only[frm,h4,h9]
   have cM:=AppendUint_any (n:=(l.length:Int)) hS.2.1 (Nat.zero_le _) ⟨by omega,by omega⟩ (by have:=HL.out.1;have:=HL.out.2.1;omega)
   have hnl:∀ k,N k→k < w1.heap.size:=fun k hk=>Nat.lt_of_lt_of_le (HN.out.2.2.1 k hk) hS.2.2.2.size
   rw[← HL.out.2.2] at cM
   have HS1:=lh hS
   have HNL:=lh hnl
   clear hS hvs hnl
   go_simp
   exact HS1.out.call HN.out.1 HNL.out cM
  ·replace hS:LfD1 E N w l' A0 l0.length c0_ (vs 10) w1:=hS
   have h12:vs 12=.pointer (some ⟨gf,0,none⟩):=hvs 12 (by decide) (by decide)
   show Made _ (fun _=>LfD2 E N w l') _
   change Made _ _ (Sem.run _ (execOp (Act.eval (Act.put (Act.put (frm _ _ _ []) (some 25) (vs 12)) (some 23) (vs 10))) _) _)
   obtain⟨V,hV⟩:∃ V,V=vs 10:=⟨_,rfl⟩
   rw[← hV] at hS ⊢
   obtain⟨A',c',rfl,_⟩:=own_shape hS.2.1
   simp only[frm,h12,← hV]
   have c0:w1.cell? ⟨gf,0,none⟩=some (.slice A0 l0.length c0_):=by rw[HGF.out];exact hS.1.cell 0
   have f0:w1.frozen? ⟨gf,0,none⟩=false:=by rw[HGF.out];exact hS.1.free 0
   have HS1:=lh hS
   clear hS hvs hV
   go_simp
   have h9:=HS1.out.store HN.out.2.1
   rw[← HGF.out] at h9
   exact made_skip (T:=fun _=>LfD2 E N w l') h9
 ·intro vs w5 hS hvs
  replace hS:LfD2 E N w l' w5:=hS
  change wpList _ _ _ [] (Act.put (Act.put (Act.put (Act.put (Act.put (Act.put (Act.put (Act.put (Act.put (Act.put (Act.put (Act.put (Act.put (Act.put (frm _ _ _ []) none (vs 13)) (some 25) (vs 12)) (some 24) (vs 11)) (some 23) (vs 10)) (some 22) (vs 9)) (some 21) (vs 8)) (some 20) (vs 7)) (some 19) (vs 6)) (some 18) (vs 5)) (some 17) (vs 4)) (some 16) (vs 3)) (some 15) (vs 2)) (some 14) (vs 1)) (some 13) (vs 0)) _
  simp only[frm]
  clear hvs
  generalize vs 0=z0
  generalize vs 1=z1
  generalize vs 2=z2
  generalize vs 3=z3
  generalize vs 4=z4
  generalize vs 5=z5
  generalize vs 6=z6
  generalize vs 7=z7
  generalize vs 8=z8
  generalize vs 9=z9
  generalize vs 10=z10
  generalize vs 11=z11
  generalize vs 12=z12
  generalize vs 13=z13
  have HF5:=lh (hS.fm HN.out.2.1 HN.out.2.2.1)
  have HK5:=lh hS.kp
  have x5:w5.cell? ⟨b,o,none⟩=some (.slice A l.length c):=by
   have:=((HH.out.1.kp hS.kp (fun h=>h HN.out.2.2.2)).cell (j:=0) rfl).1
   rw[Nat.add_zero,HO.out] at this
   exact this
  clear hS hwn
  go_wp2_with fail
  clear x5
  go_loopw [30] (fun ix wr=>∃ i:Nat,ix=.int .i64 (i:Int)∧i≤l.length∧Fm E N wr (.w (l'++(l.take i).flatMap encRf))∧Kp (fun k=>¬ N k) w wr) (fun ix _=>l.length - (intOf ix).toNat)
  case atStart=>exact⟨0,rfl,Nat.zero_le _,by rw[List.take_zero,List.flatMap_nil,List.append_nil];exact HF5.out,HK5.out⟩
  case round =>
   obtain⟨i,rfl,hi,hFi,hki⟩:=hrel
   have hHi:=HH.out.1.kp hki (fun h=>h HN.out.2.2.2)
   have xi:wr.cell? ⟨b,o,none⟩=some (.slice A l.length c):=by
    have:=(hHi.cell (j:=0) rfl).1
    rw[Nat.add_zero,HO.out] at this
    exact this
   by_cases hlt2:i < l.length
   ·obtain⟨be,oe,hA,hNe,hee⟩:=HH.out.2.2.1.resolve_left (by omega)
    have hxi:l[i]?=some l[i]:=List.getElem?_eq_getElem hlt2
    obtain⟨r,hrl,hRx,hcr⟩:=hee i _ hxi
    obtain⟨x,hxe⟩:∃ x,x=l[i]:=⟨_,rfl⟩
    rw[← hxe] at hxi hRx
    have hle:=encLt_le encRf hxi
    have htk:=encLt_take encRf hxi
    have hHe:Hd E N 26 be (List.replicate (oe+i*8) (.bool false)) [] true wr r:=by
     unfold Hd
     rw[if_pos rfl]
     refine⟨hNe,fun j v hv=>?_⟩
     obtain⟨g1,g2⟩:=hcr j v hv
     rw[List.length_replicate]
     refine⟨hki.cell g1 (fun h=>h hNe),?_⟩
     rw[frozen_of_block (hki.block be (cell_lt g1) (fun h=>h hNe))]
     exact g2
    obtain⟨li,hli⟩:∃ li,li=l'++(l.take i).flatMap encRf:=⟨_,rfl⟩
    rw[← hli] at hFi
    have hlen:li.length=l0.length+(encU (l.length:Int)).length+((l.take i).flatMap encRf).length:=by rw[hli,HL.out.2.2,List.length_append,List.length_append]
    have cM:=rfE_any (s:=.w li) (x:=x) (t:=26) (pre:=List.replicate (oe+i*8) (.bool false)) (post:=[]) hFi ((flat_rk rfC).wr hRx hki) hHe (List.length_replicate ..) (HH.out.2.2.2 x (List.mem_of_getElem? hxi)) (show li.length+(encRf x).length≤2147483648 by have:=HL.out.1;omega)
    rw[← HGF.out] at cM
    have HI:=lh (And.intro hki (And.intro htk hli))
    subst hA
    have hic:i < c:=by omega
    clear hHi hxe hle htk hHe hlen hNe hee hrl hRx hcr hxi hli hFi hki
    go_wp2_with fail
    refine cM.mono ?_
    rintro e w2 ⟨rfl,hF2,_,hfr2⟩
    have HF2:=lh hF2
    have hfr3:Kp (fun k=>¬ N k) wr w2:=by
     have:=hfr2
     unfold Fr at this
     rw[show(Fs.w li).md=true from rfl,frS_true] at this
     exact this
    have HK2:=lh (HI.out.1.trans hfr3 fun _ _ h=>h)
    clear cM hF2 hfr2 hfr3 xi
    go_wp2_with fail
    go_roundw
    case rel=>exact⟨i+1,by go_num,hlt2,by rw[HI.out.2.1,← List.append_assoc,← HI.out.2.2];exact HF2.out,HK2.out⟩
    case measure=>simp[intOf];omega
   ·have hil:i=l.length:=by omega
    rw[hil,List.take_length] at hFi
    have HE:=lh (And.intro hFi (And.intro hki hHi))
    clear hFi hki hHi hi hil
    go_wp2_with fail
    try simp only[Exit.inBlock,Exit.then]
    refine bodyPost_ret (results_none rfl _ _ _) rfl ?_
    refine⟨rfl,?_,⟨A,c,HH.out.2.1.wr (flat_rk rfC) HE.out.2.1,HE.out.2.2⟩,?_⟩
    ·have:=HE.out.1
     rw[HL.out.2.2,List.append_assoc] at this
     exact this
    ·unfold Fr
     rw[frS_true]
     exact HE.out.2.1
end
section
variable {E:Env} {N:Nat→Prop} {t:TypeId} {b o c:Nat} {A:Option Addr} {pre post:List Value} {w:World} {l0:List Int} {rd:Rd} {s:Fs} {l:List In}
set_option maxHeartbeats 8000000 in
theorem lsIn_w (hF:Fm E N w (.w l0)) (hL:LsR (flat inC) 99 3 true N w A c l) (hH:Hd E N t b pre post true w [.slice A l.length c]) (ho:pre.length=o) (hx:∀ x∈l,inP x) (hl:l0.length+(encL encIn l).length≤2147483648):Calls Tryz.prog 118 #[.pointer (some ⟨E.gf,0,none⟩),.pointer (some ⟨b,o,none⟩),.func (.func 119) #[.pointer (some ⟨E.gf,0,none⟩)] #[]] w (LsP E N t b pre post (.w (l0++encL encIn l)) true (flat inC) 99 3 l w):=by
 have hLL:=hL
 unfold LsR at hLL
 rw[if_pos rfl] at hLL
 obtain⟨hlc,hln,hel⟩:=hLL
 obtain⟨A0,c0_,hbk,hw,hN,hgN,hNl⟩:=hF
 have hc:=(hH.cell (j:=0) rfl).1
 have hb:N b:=by unfold Hd at hH;rw[if_pos rfl] at hH;exact hH.1
 rw[Nat.add_zero,ho] at hc
 obtain⟨gf,hgf⟩:∃ gf,gf=E.gf:=⟨_,rfl⟩
 have c0:w.cell? ⟨gf,0,none⟩=some (.slice A0 l0.length c0_):=by rw[hgf];exact hbk.cell 0
 have c1:w.cell? ⟨gf,1,none⟩=some (.pointer none):=by rw[hgf];exact hbk.cell 1
 have hlt:gf < w.heap.size:=by rw[hgf];exact hbk.lt
 have HS:Hid (LfD0 E N w l0 A0 c0_ b o (.slice A l.length c) w):=lh ⟨hbk,hw,hc,Kp.refl _ _⟩
 have HH:=lh (And.intro hH (And.intro hL (And.intro hel hx)))
 have HN:=lh (And.intro hN (And.intro hgN (And.intro hNl hb)))
 have hwn:IntKind.u64.wrap (l.length:Int)=(l.length:Int):=by rw[IntKind.wrap_u64];omega
 have hul:(encU (l.length:Int)).length≤(encL encIn l).length:=by unfold encL;rw[List.length_append];omega
 obtain⟨l',hl'⟩:∃ l',l'=l0++encU (l.length:Int):=⟨_,rfl⟩
 rw[← hgf]
 have HGF:=lh hgf
 have HL:=lh (And.intro hl (And.intro hul hl'))
 have HO:=lh ho
 clear hbk hw hN hgN hNl hH hc hb hl' hgf hL hel hx hul hl ho
 go_enter Tryz.func118,Tryz.ntmps118
 go_upto_region 1 with fail
 clear c0 c1
 refine wp_seq 14 (fun i=>([[],[],[1],[2],[3],[],[5],[6],[7],[8],[4,9],[0],[11],[10,12]]:List (List Nat)).getD i []) [10,13] (fun i=>([1,0,0,0,0,0,0,0,0,0,0,1,1,0]:List Nat).getD i 0) (fun zz=>([.pointer (some ⟨gf,0,none⟩),.pointer (some ⟨gf,0,none⟩),.pointer (some ⟨gf,0,none⟩),.pointer (some ⟨gf,0,none⟩),.slice A0 l0.length c0_,.pointer (some ⟨b,o,none⟩),.pointer (some ⟨b,o,none⟩),.slice A l.length c,.int .i64 (l.length:Int),.int .u64 (l.length:Int),.bool false,.pointer (some ⟨gf,0,none⟩),.pointer (some ⟨gf,0,none⟩),.bool false]:List Value).getD zz (.bool false)) (LfS (LfD0 E N w l0 A0 c0_ b o (.slice A l.length c)) (LfD1 E N w l' A0 l0.length c0_) (LfD2 E N w l')) rfl (by kernel_rfl) (by rfl) (by kernel_rfl) ?_ ?_ ?_ ?_
 ·exact⟨HS.out.1.kp ((Kp.refl (fun _=>False) w).drew) (fun h=>h),own_kp HS.out.2.1 ((Kp.refl (fun _=>False) w).drew) (fun _ _ h=>h),HS.out.2.2.1,HS.out.2.2.2.drew⟩
 ·intro zi hzi hn zo ho k vs w1 hk hlow hS hvs
  rcases (show zi=0 ∨ zi=1 ∨ zi=2 ∨ zi=3 ∨ zi=4 ∨ zi=5 ∨ zi=6 ∨ zi=7 ∨ zi=8 ∨ zi=9 ∨ zi=10 ∨ zi=11 ∨ zi=12 ∨ zi=13 by omega) with rfl | rfl | rfl | rfl | rfl | rfl | rfl | rfl | rfl | rfl | rfl | rfl | rfl | rfl <;> cases ho
  ·clear hS hvs hlow hk hn
   change Sem.run _ (execOp (Act.eval (frm _ _ _ [])) _) _=_
   simp only[frm]
   go_simp
  ·clear hS hvs hlow hk hn
   change Sem.run _ (execOp (Act.eval (frm _ _ _ [])) _) _=_
   simp only[frm]
   go_simp
  ·have h1:vs 1=.pointer (some ⟨gf,0,none⟩):=hvs 1 (by decide) (by decide)
   clear hS hvs hlow hk hn
   change Sem.run _ (execOp (Act.eval (Act.put (frm _ _ _ []) (some 14) (vs 1))) _) _=_
   simp only[frm,h1]
   go_simp
  ·have h2:vs 2=.pointer (some ⟨gf,0,none⟩):=hvs 2 (by decide) (by decide)
   clear hS hvs hlow hk hn
   change Sem.run _ (execOp (Act.eval (Act.put (frm _ _ _ []) (some 15) (vs 2))) _) _=_
   simp only[frm,h2]
   go_simp
  ·have h3:vs 3=.pointer (some ⟨gf,0,none⟩):=hvs 3 (by decide) (by decide)
   replace hk:k≤0:=hk
   obtain rfl:k=0:=by omega
   replace hS:LfD0 E N w l0 A0 c0_ b o (.slice A l.length c) w1:=hS
   have c0:w1.cell? ⟨gf,0,none⟩=some (.slice A0 l0.length c0_):=by rw[HGF.out];exact hS.1.cell 0
   clear hS hvs hlow hk hn
   change Sem.run _ (execOp (Act.eval (Act.put (frm _ _ _ []) (some 16) (vs 3))) _) _=_
   simp only[frm,h3]
   go_simp
  ·clear hS hvs hlow hk hn
   change Sem.run _ (execOp (Act.eval (frm _ _ _ [])) _) _=_
   simp only[frm]
   go_simp
  ·have h5:vs 5=.pointer (some ⟨b,o,none⟩):=hvs 5 (by decide) (by decide)
   clear hS hvs hlow hk hn
   change Sem.run _ (execOp (Act.eval (Act.put (frm _ _ _ []) (some 18) (vs 5))) _) _=_
   simp only[frm,h5]
   go_simp
  ·have h6:vs 6=.pointer (some ⟨b,o,none⟩):=hvs 6 (by decide) (by decide)
   replace hk:k≤0:=hk
   obtain rfl:k=0:=by omega
   replace hS:LfD0 E N w l0 A0 c0_ b o (.slice A l.length c) w1:=hS
   have c0:=hS.2.2.1
   clear hS hvs hlow hk hn
   change Sem.run _ (execOp (Act.eval (Act.put (frm _ _ _ []) (some 19) (vs 6))) _) _=_
   simp only[frm,h6]
   go_simp
  ·have h7:vs 7=.slice A l.length c:=hvs 7 (by decide) (by decide)
   clear hS hvs hlow hk hn
   change Sem.run _ (execOp (Act.eval (Act.put (frm _ _ _ []) (some 20) (vs 7))) _) _=_
   simp only[frm,h7]
   go_simp
  ·have h8:vs 8=.int .i64 (l.length:Int):=hvs 8 (by decide) (by decide)
   clear hS hvs hlow hk hn
   change Sem.run _ (execOp (Act.eval (Act.put (frm _ _ _ []) (some 21) (vs 8))) _) _=_
   simp only[frm,h8]
   go_simp
  ·exact absurd (by decide) hn
  ·have h0:vs 0=.pointer (some ⟨gf,0,none⟩):=hvs 0 (by decide) (by decide)
   clear hS hvs hlow hk hn
   change Sem.run _ (execOp (Act.eval (Act.put (frm _ _ _ []) (some 13) (vs 0))) _) _=_
   simp only[frm,h0]
   go_simp
  ·have h11:vs 11=.pointer (some ⟨gf,0,none⟩):=hvs 11 (by decide) (by decide)
   clear hS hvs hlow hk hn
   change Sem.run _ (execOp (Act.eval (Act.put (frm _ _ _ []) (some 24) (vs 11))) _) _=_
   simp only[frm,h11]
   go_simp
  ·exact absurd (by decide) hn
 ·intro p hp o ho vs w1 hS hvs
  rcases (show p=0 ∨ p=1 by change p < 2 at hp;omega) with rfl | rfl <;> cases ho
  ·replace hS:LfD0 E N w l0 A0 c0_ b o (.slice A l.length c) w1:=hS
   have h4:vs 4=.slice A0 l0.length c0_:=hvs 4 (by decide) (by decide)
   have h9:vs 9=.int .u64 (l.length:Int):=hvs 9 (by decide) (by decide)
   show Made _ (LfD1 E N w l' A0 l0.length c0_) _
   change Made _ _ (Sem.run _ (execOp (Act.eval (Act.put (Act.put (frm _ _ _ []) (some 22) (vs 9)) (some 17) (vs 4))) _) _)
   simp only[frm,h4,h9]
   have cM:=AppendUint_any (n:=(l.length:Int)) hS.2.1 (Nat.zero_le _) ⟨by omega,by omega⟩ (by have:=HL.out.1;have:=HL.out.2.1;omega)
   have hnl:∀ k,N k→k < w1.heap.size:=fun k hk=>Nat.lt_of_lt_of_le (HN.out.2.2.1 k hk) hS.2.2.2.size
   rw[← HL.out.2.2] at cM
   have HS1:=lh hS
   have HNL:=lh hnl
   clear hS hvs hnl
   go_simp
   exact HS1.out.call HN.out.1 HNL.out cM
  ·replace hS:LfD1 E N w l' A0 l0.length c0_ (vs 10) w1:=hS
   have h12:vs 12=.pointer (some ⟨gf,0,none⟩):=hvs 12 (by decide) (by decide)
   show Made _ (fun _=>LfD2 E N w l') _
   change Made _ _ (Sem.run _ (execOp (Act.eval (Act.put (Act.put (frm _ _ _ []) (some 25) (vs 12)) (some 23) (vs 10))) _) _)
   obtain⟨V,hV⟩:∃ V,V=vs 10:=⟨_,rfl⟩
   rw[← hV] at hS ⊢
   obtain⟨A',c',rfl,_⟩:=own_shape hS.2.1
   simp only[frm,h12,← hV]
   have c0:w1.cell? ⟨gf,0,none⟩=some (.slice A0 l0.length c0_):=by rw[HGF.out];exact hS.1.cell 0
   have f0:w1.frozen? ⟨gf,0,none⟩=false:=by rw[HGF.out];exact hS.1.free 0
   have HS1:=lh hS
   clear hS hvs hV
   go_simp
   have h9:=HS1.out.store HN.out.2.1
   rw[← HGF.out] at h9
   exact made_skip (T:=fun _=>LfD2 E N w l') h9
 ·intro vs w5 hS hvs
  replace hS:LfD2 E N w l' w5:=hS
  change wpList _ _ _ [] (Act.put (Act.put (Act.put (Act.put (Act.put (Act.put (Act.put (Act.put (Act.put (Act.put (Act.put (Act.put (Act.put (Act.put (frm _ _ _ []) none (vs 13)) (some 25) (vs 12)) (some 24) (vs 11)) (some 23) (vs 10)) (some 22) (vs 9)) (some 21) (vs 8)) (some 20) (vs 7)) (some 19) (vs 6)) (some 18) (vs 5)) (some 17) (vs 4)) (some 16) (vs 3)) (some 15) (vs 2)) (some 14) (vs 1)) (some 13) (vs 0)) _
  simp only[frm]
  clear hvs
  generalize vs 0=z0
  generalize vs 1=z1
  generalize vs 2=z2
  generalize vs 3=z3
  generalize vs 4=z4
  generalize vs 5=z5
  generalize vs 6=z6
  generalize vs 7=z7
  generalize vs 8=z8
  generalize vs 9=z9
  generalize vs 10=z10
  generalize vs 11=z11
  generalize vs 12=z12
  generalize vs 13=z13
  have HF5:=lh (hS.fm HN.out.2.1 HN.out.2.2.1)
  have HK5:=lh hS.kp
  have x5:w5.cell? ⟨b,o,none⟩=some (.slice A l.length c):=by
   have:=((HH.out.1.kp hS.kp (fun h=>h HN.out.2.2.2)).cell (j:=0) rfl).1
   rw[Nat.add_zero,HO.out] at this
   exact this
  clear hS hwn
  go_wp2_with fail
  clear x5
  go_loopw [30] (fun ix wr=>∃ i:Nat,ix=.int .i64 (i:Int)∧i≤l.length∧Fm E N wr (.w (l'++(l.take i).flatMap encIn))∧Kp (fun k=>¬ N k) w wr) (fun ix _=>l.length - (intOf ix).toNat)
  case atStart=>exact⟨0,rfl,Nat.zero_le _,by rw[List.take_zero,List.flatMap_nil,List.append_nil];exact HF5.out,HK5.out⟩
  case round =>
   obtain⟨i,rfl,hi,hFi,hki⟩:=hrel
   have hHi:=HH.out.1.kp hki (fun h=>h HN.out.2.2.2)
   have xi:wr.cell? ⟨b,o,none⟩=some (.slice A l.length c):=by
    have:=(hHi.cell (j:=0) rfl).1
    rw[Nat.add_zero,HO.out] at this
    exact this
   by_cases hlt2:i < l.length
   ·obtain⟨be,oe,hA,hNe,hee⟩:=HH.out.2.2.1.resolve_left (by omega)
    have hxi:l[i]?=some l[i]:=List.getElem?_eq_getElem hlt2
    obtain⟨r,hrl,hRx,hcr⟩:=hee i _ hxi
    obtain⟨x,hxe⟩:∃ x,x=l[i]:=⟨_,rfl⟩
    rw[← hxe] at hxi hRx
    have hle:=encLt_le encIn hxi
    have htk:=encLt_take encIn hxi
    have hHe:Hd E N 99 be (List.replicate (oe+i*3) (.bool false)) [] true wr r:=by
     unfold Hd
     rw[if_pos rfl]
     refine⟨hNe,fun j v hv=>?_⟩
     obtain⟨g1,g2⟩:=hcr j v hv
     rw[List.length_replicate]
     refine⟨hki.cell g1 (fun h=>h hNe),?_⟩
     rw[frozen_of_block (hki.block be (cell_lt g1) (fun h=>h hNe))]
     exact g2
    obtain⟨li,hli⟩:∃ li,li=l'++(l.take i).flatMap encIn:=⟨_,rfl⟩
    rw[← hli] at hFi
    have hlen:li.length=l0.length+(encU (l.length:Int)).length+((l.take i).flatMap encIn).length:=by rw[hli,HL.out.2.2,List.length_append,List.length_append]
    have cM:=inE_any (s:=.w li) (x:=x) (t:=99) (pre:=List.replicate (oe+i*3) (.bool false)) (post:=[]) hFi ((flat_rk inC).wr hRx hki) hHe (List.length_replicate ..) (HH.out.2.2.2 x (List.mem_of_getElem? hxi)) (show li.length+(encIn x).length≤2147483648 by have:=HL.out.1;omega)
    rw[← HGF.out] at cM
    have HI:=lh (And.intro hki (And.intro htk hli))
    subst hA
    have hic:i < c:=by omega
    clear hHi hxe hle htk hHe hlen hNe hee hrl hRx hcr hxi hli hFi hki
    go_wp2_with fail
    refine cM.mono ?_
    rintro e w2 ⟨rfl,hF2,_,hfr2⟩
    have HF2:=lh hF2
    have hfr3:Kp (fun k=>¬ N k) wr w2:=by
     have:=hfr2
     unfold Fr at this
     rw[show(Fs.w li).md=true from rfl,frS_true] at this
     exact this
    have HK2:=lh (HI.out.1.trans hfr3 fun _ _ h=>h)
    clear cM hF2 hfr2 hfr3 xi
    go_wp2_with fail
    go_roundw
    case rel=>exact⟨i+1,by go_num,hlt2,by rw[HI.out.2.1,← List.append_assoc,← HI.out.2.2];exact HF2.out,HK2.out⟩
    case measure=>simp[intOf];omega
   ·have hil:i=l.length:=by omega
    rw[hil,List.take_length] at hFi
    have HE:=lh (And.intro hFi (And.intro hki hHi))
    clear hFi hki hHi hi hil
    go_wp2_with fail
    try simp only[Exit.inBlock,Exit.then]
    refine bodyPost_ret (results_none rfl _ _ _) rfl ?_
    refine⟨rfl,?_,⟨A,c,HH.out.2.1.wr (flat_rk inC) HE.out.2.1,HE.out.2.2⟩,?_⟩
    ·have:=HE.out.1
     rw[HL.out.2.2,List.append_assoc] at this
     exact this
    ·unfold Fr
     rw[frS_true]
     exact HE.out.2.1
end
section
variable {E:Env} {N:Nat→Prop} {t:TypeId} {b o c:Nat} {A:Option Addr} {pre post:List Value} {w:World} {l0:List Int} {rd:Rd} {s:Fs} {l:List Nd}
set_option maxHeartbeats 8000000 in
theorem lsNd_w (hF:Fm E N w (.w l0)) (hL:LsR (flat ndC) 136 3 true N w A c l) (hH:Hd E N t b pre post true w [.slice A l.length c]) (ho:pre.length=o) (hx:∀ x∈l,ndP x) (hl:l0.length+(encL encNd l).length≤2147483648):Calls Tryz.prog 120 #[.pointer (some ⟨E.gf,0,none⟩),.pointer (some ⟨b,o,none⟩),.func (.func 121) #[.pointer (some ⟨E.gf,0,none⟩)] #[]] w (LsP E N t b pre post (.w (l0++encL encNd l)) true (flat ndC) 136 3 l w):=by
 have hLL:=hL
 unfold LsR at hLL
 rw[if_pos rfl] at hLL
 obtain⟨hlc,hln,hel⟩:=hLL
 obtain⟨A0,c0_,hbk,hw,hN,hgN,hNl⟩:=hF
 have hc:=(hH.cell (j:=0) rfl).1
 have hb:N b:=by unfold Hd at hH;rw[if_pos rfl] at hH;exact hH.1
 rw[Nat.add_zero,ho] at hc
 obtain⟨gf,hgf⟩:∃ gf,gf=E.gf:=⟨_,rfl⟩
 have c0:w.cell? ⟨gf,0,none⟩=some (.slice A0 l0.length c0_):=by rw[hgf];exact hbk.cell 0
 have c1:w.cell? ⟨gf,1,none⟩=some (.pointer none):=by rw[hgf];exact hbk.cell 1
 have hlt:gf < w.heap.size:=by rw[hgf];exact hbk.lt
 have HS:Hid (LfD0 E N w l0 A0 c0_ b o (.slice A l.length c) w):=lh ⟨hbk,hw,hc,Kp.refl _ _⟩
 have HH:=lh (And.intro hH (And.intro hL (And.intro hel hx)))
 have HN:=lh (And.intro hN (And.intro hgN (And.intro hNl hb)))
 have hwn:IntKind.u64.wrap (l.length:Int)=(l.length:Int):=by rw[IntKind.wrap_u64];omega
 have hul:(encU (l.length:Int)).length≤(encL encNd l).length:=by unfold encL;rw[List.length_append];omega
 obtain⟨l',hl'⟩:∃ l',l'=l0++encU (l.length:Int):=⟨_,rfl⟩
 rw[← hgf]
 have HGF:=lh hgf
 have HL:=lh (And.intro hl (And.intro hul hl'))
 have HO:=lh ho
 clear hbk hw hN hgN hNl hH hc hb hl' hgf hL hel hx hul hl ho
 go_enter Tryz.func120,Tryz.ntmps120
 go_upto_region 1 with fail
 clear c0 c1
 refine wp_seq 14 (fun i=>([[],[],[1],[2],[3],[],[5],[6],[7],[8],[4,9],[0],[11],[10,12]]:List (List Nat)).getD i []) [10,13] (fun i=>([1,0,0,0,0,0,0,0,0,0,0,1,1,0]:List Nat).getD i 0) (fun zz=>([.pointer (some ⟨gf,0,none⟩),.pointer (some ⟨gf,0,none⟩),.pointer (some ⟨gf,0,none⟩),.pointer (some ⟨gf,0,none⟩),.slice A0 l0.length c0_,.pointer (some ⟨b,o,none⟩),.pointer (some ⟨b,o,none⟩),.slice A l.length c,.int .i64 (l.length:Int),.int .u64 (l.length:Int),.bool false,.pointer (some ⟨gf,0,none⟩),.pointer (some ⟨gf,0,none⟩),.bool false]:List Value).getD zz (.bool false)) (LfS (LfD0 E N w l0 A0 c0_ b o (.slice A l.length c)) (LfD1 E N w l' A0 l0.length c0_) (LfD2 E N w l')) rfl (by kernel_rfl) (by rfl) (by kernel_rfl) ?_ ?_ ?_ ?_
 ·exact⟨HS.out.1.kp ((Kp.refl (fun _=>False) w).drew) (fun h=>h),own_kp HS.out.2.1 ((Kp.refl (fun _=>False) w).drew) (fun _ _ h=>h),HS.out.2.2.1,HS.out.2.2.2.drew⟩
 ·intro zi hzi hn zo ho k vs w1 hk hlow hS hvs
  rcases (show zi=0 ∨ zi=1 ∨ zi=2 ∨ zi=3 ∨ zi=4 ∨ zi=5 ∨ zi=6 ∨ zi=7 ∨ zi=8 ∨ zi=9 ∨ zi=10 ∨ zi=11 ∨ zi=12 ∨ zi=13 by omega) with rfl | rfl | rfl | rfl | rfl | rfl | rfl | rfl | rfl | rfl | rfl | rfl | rfl | rfl <;> cases ho
  ·clear hS hvs hlow hk hn
   change Sem.run _ (execOp (Act.eval (frm _ _ _ [])) _) _=_
   simp only[frm]
   go_simp
  ·clear hS hvs hlow hk hn
   change Sem.run _ (execOp (Act.eval (frm _ _ _ [])) _) _=_
   simp only[frm]
   go_simp
  ·have h1:vs 1=.pointer (some ⟨gf,0,none⟩):=hvs 1 (by decide) (by decide)
   clear hS hvs hlow hk hn
   change Sem.run _ (execOp (Act.eval (Act.put (frm _ _ _ []) (some 14) (vs 1))) _) _=_
   simp only[frm,h1]
   go_simp
  ·have h2:vs 2=.pointer (some ⟨gf,0,none⟩):=hvs 2 (by decide) (by decide)
   clear hS hvs hlow hk hn
   change Sem.run _ (execOp (Act.eval (Act.put (frm _ _ _ []) (some 15) (vs 2))) _) _=_
   simp only[frm,h2]
   go_simp
  ·have h3:vs 3=.pointer (some ⟨gf,0,none⟩):=hvs 3 (by decide) (by decide)
   replace hk:k≤0:=hk
   obtain rfl:k=0:=by omega
   replace hS:LfD0 E N w l0 A0 c0_ b o (.slice A l.length c) w1:=hS
   have c0:w1.cell? ⟨gf,0,none⟩=some (.slice A0 l0.length c0_):=by rw[HGF.out];exact hS.1.cell 0
   clear hS hvs hlow hk hn
   change Sem.run _ (execOp (Act.eval (Act.put (frm _ _ _ []) (some 16) (vs 3))) _) _=_
   simp only[frm,h3]
   go_simp
  ·clear hS hvs hlow hk hn
   change Sem.run _ (execOp (Act.eval (frm _ _ _ [])) _) _=_
   simp only[frm]
   go_simp
  ·have h5:vs 5=.pointer (some ⟨b,o,none⟩):=hvs 5 (by decide) (by decide)
   clear hS hvs hlow hk hn
   change Sem.run _ (execOp (Act.eval (Act.put (frm _ _ _ []) (some 18) (vs 5))) _) _=_
   simp only[frm,h5]
   go_simp
  ·have h6:vs 6=.pointer (some ⟨b,o,none⟩):=hvs 6 (by decide) (by decide)
   replace hk:k≤0:=hk
   obtain rfl:k=0:=by omega
   replace hS:LfD0 E N w l0 A0 c0_ b o (.slice A l.length c) w1:=hS
   have c0:=hS.2.2.1
   clear hS hvs hlow hk hn
   change Sem.run _ (execOp (Act.eval (Act.put (frm _ _ _ []) (some 19) (vs 6))) _) _=_
   simp only[frm,h6]
   go_simp
  ·have h7:vs 7=.slice A l.length c:=hvs 7 (by decide) (by decide)
   clear hS hvs hlow hk hn
   change Sem.run _ (execOp (Act.eval (Act.put (frm _ _ _ []) (some 20) (vs 7))) _) _=_
   simp only[frm,h7]
   go_simp
  ·have h8:vs 8=.int .i64 (l.length:Int):=hvs 8 (by decide) (by decide)
   clear hS hvs hlow hk hn
   change Sem.run _ (execOp (Act.eval (Act.put (frm _ _ _ []) (some 21) (vs 8))) _) _=_
   simp only[frm,h8]
   go_simp
  ·exact absurd (by decide) hn
  ·have h0:vs 0=.pointer (some ⟨gf,0,none⟩):=hvs 0 (by decide) (by decide)
   clear hS hvs hlow hk hn
   change Sem.run _ (execOp (Act.eval (Act.put (frm _ _ _ []) (some 13) (vs 0))) _) _=_
   simp only[frm,h0]
   go_simp
  ·have h11:vs 11=.pointer (some ⟨gf,0,none⟩):=hvs 11 (by decide) (by decide)
   clear hS hvs hlow hk hn
   change Sem.run _ (execOp (Act.eval (Act.put (frm _ _ _ []) (some 24) (vs 11))) _) _=_
   simp only[frm,h11]
   go_simp
  ·exact absurd (by decide) hn
 ·intro p hp o ho vs w1 hS hvs
  rcases (show p=0 ∨ p=1 by change p < 2 at hp;omega) with rfl | rfl <;> cases ho
  ·replace hS:LfD0 E N w l0 A0 c0_ b o (.slice A l.length c) w1:=hS
   have h4:vs 4=.slice A0 l0.length c0_:=hvs 4 (by decide) (by decide)
   have h9:vs 9=.int .u64 (l.length:Int):=hvs 9 (by decide) (by decide)
   show Made _ (LfD1 E N w l' A0 l0.length c0_) _
   change Made _ _ (Sem.run _ (execOp (Act.eval (Act.put (Act.put (frm _ _ _ []) (some 22) (vs 9)) (some 17) (vs 4))) _) _)
   simp only[frm,h4,h9]
   have cM:=AppendUint_any (n:=(l.length:Int)) hS.2.1 (Nat.zero_le _) ⟨by omega,by omega⟩ (by have:=HL.out.1;have:=HL.out.2.1;omega)
   have hnl:∀ k,N k→k < w1.heap.size:=fun k hk=>Nat.lt_of_lt_of_le (HN.out.2.2.1 k hk) hS.2.2.2.size
   rw[← HL.out.2.2] at cM
   have HS1:=lh hS
   have HNL:=lh hnl
   clear hS hvs hnl
   go_simp
   exact HS1.out.call HN.out.1 HNL.out cM
  ·replace hS:LfD1 E N w l' A0 l0.length c0_ (vs 10) w1:=hS
   have h12:vs 12=.pointer (some ⟨gf,0,none⟩):=hvs 12 (by decide) (by decide)
   show Made _ (fun _=>LfD2 E N w l') _
   change Made _ _ (Sem.run _ (execOp (Act.eval (Act.put (Act.put (frm _ _ _ []) (some 25) (vs 12)) (some 23) (vs 10))) _) _)
   obtain⟨V,hV⟩:∃ V,V=vs 10:=⟨_,rfl⟩
   rw[← hV] at hS ⊢
   obtain⟨A',c',rfl,_⟩:=own_shape hS.2.1
   simp only[frm,h12,← hV]
   have c0:w1.cell? ⟨gf,0,none⟩=some (.slice A0 l0.length c0_):=by rw[HGF.out];exact hS.1.cell 0
   have f0:w1.frozen? ⟨gf,0,none⟩=false:=by rw[HGF.out];exact hS.1.free 0
   have HS1:=lh hS
   clear hS hvs hV
   go_simp
   have h9:=HS1.out.store HN.out.2.1
   rw[← HGF.out] at h9
   exact made_skip (T:=fun _=>LfD2 E N w l') h9
 ·intro vs w5 hS hvs
  replace hS:LfD2 E N w l' w5:=hS
  change wpList _ _ _ [] (Act.put (Act.put (Act.put (Act.put (Act.put (Act.put (Act.put (Act.put (Act.put (Act.put (Act.put (Act.put (Act.put (Act.put (frm _ _ _ []) none (vs 13)) (some 25) (vs 12)) (some 24) (vs 11)) (some 23) (vs 10)) (some 22) (vs 9)) (some 21) (vs 8)) (some 20) (vs 7)) (some 19) (vs 6)) (some 18) (vs 5)) (some 17) (vs 4)) (some 16) (vs 3)) (some 15) (vs 2)) (some 14) (vs 1)) (some 13) (vs 0)) _
  simp only[frm]
  clear hvs
  generalize vs 0=z0
  generalize vs 1=z1
  generalize vs 2=z2
  generalize vs 3=z3
  generalize vs 4=z4
  generalize vs 5=z5
  generalize vs 6=z6
  generalize vs 7=z7
  generalize vs 8=z8
  generalize vs 9=z9
  generalize vs 10=z10
  generalize vs 11=z11
  generalize vs 12=z12
  generalize vs 13=z13
  have HF5:=lh (hS.fm HN.out.2.1 HN.out.2.2.1)
  have HK5:=lh hS.kp
  have x5:w5.cell? ⟨b,o,none⟩=some (.slice A l.length c):=by
   have:=((HH.out.1.kp hS.kp (fun h=>h HN.out.2.2.2)).cell (j:=0) rfl).1
   rw[Nat.add_zero,HO.out] at this
   exact this
  clear hS hwn
  go_wp2_with fail
  clear x5
  go_loopw [30] (fun ix wr=>∃ i:Nat,ix=.int .i64 (i:Int)∧i≤l.length∧Fm E N wr (.w (l'++(l.take i).flatMap encNd))∧Kp (fun k=>¬ N k) w wr) (fun ix _=>l.length - (intOf ix).toNat)
  case atStart=>exact⟨0,rfl,Nat.zero_le _,by rw[List.take_zero,List.flatMap_nil,List.append_nil];exact HF5.out,HK5.out⟩
  case round =>
   obtain⟨i,rfl,hi,hFi,hki⟩:=hrel
   have hHi:=HH.out.1.kp hki (fun h=>h HN.out.2.2.2)
   have xi:wr.cell? ⟨b,o,none⟩=some (.slice A l.length c):=by
    have:=(hHi.cell (j:=0) rfl).1
    rw[Nat.add_zero,HO.out] at this
    exact this
   by_cases hlt2:i < l.length
   ·obtain⟨be,oe,hA,hNe,hee⟩:=HH.out.2.2.1.resolve_left (by omega)
    have hxi:l[i]?=some l[i]:=List.getElem?_eq_getElem hlt2
    obtain⟨r,hrl,hRx,hcr⟩:=hee i _ hxi
    obtain⟨x,hxe⟩:∃ x,x=l[i]:=⟨_,rfl⟩
    rw[← hxe] at hxi hRx
    have hle:=encLt_le encNd hxi
    have htk:=encLt_take encNd hxi
    have hHe:Hd E N 136 be (List.replicate (oe+i*3) (.bool false)) [] true wr r:=by
     unfold Hd
     rw[if_pos rfl]
     refine⟨hNe,fun j v hv=>?_⟩
     obtain⟨g1,g2⟩:=hcr j v hv
     rw[List.length_replicate]
     refine⟨hki.cell g1 (fun h=>h hNe),?_⟩
     rw[frozen_of_block (hki.block be (cell_lt g1) (fun h=>h hNe))]
     exact g2
    obtain⟨li,hli⟩:∃ li,li=l'++(l.take i).flatMap encNd:=⟨_,rfl⟩
    rw[← hli] at hFi
    have hlen:li.length=l0.length+(encU (l.length:Int)).length+((l.take i).flatMap encNd).length:=by rw[hli,HL.out.2.2,List.length_append,List.length_append]
    have cM:=ndE_any (s:=.w li) (x:=x) (t:=136) (pre:=List.replicate (oe+i*3) (.bool false)) (post:=[]) hFi ((flat_rk ndC).wr hRx hki) hHe (List.length_replicate ..) (HH.out.2.2.2 x (List.mem_of_getElem? hxi)) (show li.length+(encNd x).length≤2147483648 by have:=HL.out.1;omega)
    rw[← HGF.out] at cM
    have HI:=lh (And.intro hki (And.intro htk hli))
    subst hA
    have hic:i < c:=by omega
    clear hHi hxe hle htk hHe hlen hNe hee hrl hRx hcr hxi hli hFi hki
    go_wp2_with fail
    refine cM.mono ?_
    rintro e w2 ⟨rfl,hF2,_,hfr2⟩
    have HF2:=lh hF2
    have hfr3:Kp (fun k=>¬ N k) wr w2:=by
     have:=hfr2
     unfold Fr at this
     rw[show(Fs.w li).md=true from rfl,frS_true] at this
     exact this
    have HK2:=lh (HI.out.1.trans hfr3 fun _ _ h=>h)
    clear cM hF2 hfr2 hfr3 xi
    go_wp2_with fail
    go_roundw
    case rel=>exact⟨i+1,by go_num,hlt2,by rw[HI.out.2.1,← List.append_assoc,← HI.out.2.2];exact HF2.out,HK2.out⟩
    case measure=>simp[intOf];omega
   ·have hil:i=l.length:=by omega
    rw[hil,List.take_length] at hFi
    have HE:=lh (And.intro hFi (And.intro hki hHi))
    clear hFi hki hHi hi hil
    go_wp2_with fail
    try simp only[Exit.inBlock,Exit.then]
    refine bodyPost_ret (results_none rfl _ _ _) rfl ?_
    refine⟨rfl,?_,⟨A,c,HH.out.2.1.wr (flat_rk ndC) HE.out.2.1,HE.out.2.2⟩,?_⟩
    ·have:=HE.out.1
     rw[HL.out.2.2,List.append_assoc] at this
     exact this
    ·unfold Fr
     rw[frS_true]
     exact HE.out.2.1
end
end
end Go.Proofs.YtmbnlccafcfbeaaGreatDoor
