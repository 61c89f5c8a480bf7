/- Parts of the proof: Clone, StepE. -/
import Derived.Lib.SliceRun
import Derived.Test.YtaijmgkjbbiboaaGreatPcA
import Derived.Test.YtaijmgkjbbiboaaGreatPc17
import Derived.Test.YtaijmgkjbbiboaaGreatPc18
import Derived.Test.YtaijmgkjbbiboaaGreatPc20
import Derived.Test.YtaijmgkjbbiboaaGreatPc26
import Derived.Test.YtaijmgkjbbiboaaGreatPc3
import Derived.Test.YtaijmgkjbbiboaaGreatPc4
set_option linter.unusedVariables false
set_option linter.unusedSimpArgs false
set_option linter.unusedSectionVars false
set_option maxRecDepth 100000
namespace Go.Proofs.YtaijmgkjbbiboaaGreat
section
open Go.RowKit
attribute [local go_sem] Oper.semAt_some
def OwnT (B n:Nat) (xs:List Value) (v:Value) (w:World):Prop:=w.ownsRow B 54 1 v n xs
theorem OwnT.below {B n:Nat} {xs:List Value} (v:Value) (w w':World) (h:OwnT B n xs v w) (hb:Below w.heap.size w w'):OwnT B n xs v w':=own_local h fun k hk=>hb.block k (h.lt k hk).2
section
variable {w:World} {B g:Nat} {s:Spc} {V:Value}
set_option maxHeartbeats 1000000 in
theorem sClone_any {A:Option Addr} {c:Nat} {l:List Int} (h:w.ownsRow B 54 1 (.slice A l.length c) l.length (wds l)) (hl:l.length≤4294967297) :
  Calls Tryz.prog 104 #[.slice A l.length c] w fun e w'=>∃ v,e=.returned v∧OwnT w.heap.size l.length (wds l) v w'∧Below w.heap.size w w':=by
 cases A with
 | none =>
  have h0:l.length=0∧c=0:=by
   obtain⟨_,⟨h2,h3⟩ | ⟨g',cap',cur,hv,_⟩⟩:=h
   ·injection h2 with _ e1 e2;exact⟨e1,e2⟩
   ·cases hv
  obtain⟨hl0,rfl⟩:=h0
  obtain rfl:l=[]:=List.length_eq_zero_iff.1 hl0
  clear h hl hl0
  go_enter Tryz.func104,Tryz.ntmps104
  have q:=fun w n c=>Lib.run_eql_slice_nil w 31 _ none n c 0 0 Tryz.underlying31
  go_wp2_with fail
  go_ret
  exact⟨_,rfl,World.ownsRow_nil _ _ _ _,Below.refl _ _⟩
 | some ad =>
  obtain⟨i0,hi,hz0,hz1,hz2⟩:=info_parts i_word
  have HI:=lh (And.intro hi (And.intro hz0 (And.intro hz1 hz2)))
  have hbe:Below w.heap.size w (w.alloc (.cells #[] 54)):=(Below.refl _ _).alloc (Nat.le_refl _) _
  have HBE:=lh hbe
  have hwe:(w.alloc (.cells #[] 54)).ownsRow w.heap.size 54 1 (.slice (some ⟨w.heap.size,0,none⟩) 0 0) 0 []:=ownEmpty 1 (Bk.new _ _ _) (Nat.le_refl _)
  have HWE:=lh hwe
  have HS:=lh (own_sl h)
  clear h hi hz0 hz1 hz2 hbe hwe
  have q:=fun w n c=>Lib.run_eql_slice_nil w 31 _ (some ad) n c 0 0 Tryz.underlying31
  go_enter Tryz.func104,Tryz.ntmps104
  go_wp2_with (at_builtin;refine wpList_app rfl (.tmp 5) (.tmp 6) 31 rfl Tryz.underlying31 HI.out.1 HI.out.2.1 HI.out.2.2.1 HI.out.2.2.2 rfl (by decide) (n:=0) (xs:=[]) rfl HWE.out (A:=some ad) (m:=l.length) (c:=c) (news:=wds l) rfl (HS.out.below HBE.out) (wds_one _) (by unfold maxLen;omega) (by omega) (by simp) ?_;intro v2 w2 ho2 hg2 h42;simp only[Nat.zero_add,List.nil_append] at ho2;have HO2:=lh ho2;have HB2:Hid (Below w.heap.size w w2):=lh (HBE.out.grown hg2 (by simp) (fun k hk=>by cases hk;exact Nat.le_refl _));clear ho2 hg2 h42)
  go_ret
  exact⟨_,rfl,HO2.out,HB2.out⟩
/-- the copy of a space, in blocks of its own -/
def CloneP (w:World) (s:Spc) (e:Ending) (w':World):Prop:=∃ g' V',e=.returned (.pointer (some ⟨g',0,none⟩))∧SpR w' w.heap.size g' s V'∧w.heap.size≤g'∧Below w.heap.size w w'
set_option maxHeartbeats 4000000 in
theorem SpClone_any (h:SpR w B g s V):Calls Tryz.prog 56 #[.pointer (some ⟨g,0,none⟩)] w (CloneP w s):=by
 obtain⟨A,c,rfl,hle⟩:=own_shape h.own
 have HK:Hid (Bk w g 123 #[.int .i64 s.base,.int .i64 s.limit,.slice A s.ws.length c]):=lh h.hd
 have cC:=fun w1 (hb:Below w.heap.size w w1)=>sClone_any ((h.below hb).own) (by have:=h.lim;have:=h.l0;have:=h.b0;omega)
 have HCC:=lh cC
 have H:=lh h
 clear h cC
 go_enter Tryz.func56,Tryz.ntmps56
 go_upto_region 1 with fail
 refine wp_region_adds0 13 (fun i=>([[],[0],[1],[2],[],[4],[5],[6],[],[8],[9],[10],[11]]:List (List Nat)).getD i []) (EL [Ent.val (.pointer (some ⟨g,0,none⟩)),Ent.val (.pointer (some ⟨g,0,none⟩)),Ent.val (.pointer (some ⟨g,0,none⟩)),Ent.val (.int .i64 s.base),Ent.val (.pointer (some ⟨g,0,none⟩)),Ent.val (.pointer (some ⟨g,0,none⟩)),Ent.val (.pointer (some ⟨g,1,none⟩)),Ent.val (.int .i64 s.limit),Ent.val (.pointer (some ⟨g,0,none⟩)),Ent.val (.pointer (some ⟨g,0,none⟩)),Ent.val (.pointer (some ⟨g,2,none⟩)),Ent.val (.slice A s.ws.length c),Ent.of (OwnT w.heap.size s.ws.length (wds s.ws)) OwnT.below]) (by kernel_rfl) (by kernel_rfl) (by kernel_rfl) (by kernel_rfl) (by rfl) ?_ ?_
 ·intro i hi o ho vs w1 hb1 hgr
  rcases (show i=0 ∨ i=1 ∨ i=2 ∨ i=3 ∨ i=4 ∨ i=5 ∨ i=6 ∨ i=7 ∨ i=8 ∨ i=9 ∨ i=10 ∨ i=11 ∨ i=12 by omega) with rfl | rfl | rfl | rfl | rfl | rfl | rfl | rfl | rfl | rfl | rfl | rfl | rfl <;> cases ho
  ·clear hgr
   change Made _ (Adds _ _ _) (Sem.run _ (execOp (Act.eval (frm _ _ _ [])) _) _)
   simp only[frm]
   go_simp
   exact adds_val rfl
  ·have h0:vs 0=_:=hgr 0 (by decide)
   clear hgr
   change Made _ (Adds _ _ _) (Sem.run _ (execOp (Act.eval (Act.put (frm _ _ _ []) (some 3) (vs 0))) _) _)
   simp only[frm,h0]
   go_simp
   exact adds_val rfl
  ·have h1:vs 1=_:=hgr 1 (by decide)
   clear hgr
   change Made _ (Adds _ _ _) (Sem.run _ (execOp (Act.eval (Act.put (frm _ _ _ []) (some 4) (vs 1))) _) _)
   simp only[frm,h1]
   go_simp
   exact adds_val rfl
  ·have h2:vs 2=_:=hgr 2 (by decide)
   clear hgr
   change Made _ (Adds _ _ _) (Sem.run _ (execOp (Act.eval (Act.put (frm _ _ _ []) (some 5) (vs 2))) _) _)
   simp only[frm,h2]
   have hbk:=HK.out.below hb1 HK.out.lt
   have c0:w1.cell? ⟨g,0,none⟩=some (.int .i64 s.base):=hbk.cell 0
   clear hbk
   go_simp
   exact adds_val rfl
  ·clear hgr
   change Made _ (Adds _ _ _) (Sem.run _ (execOp (Act.eval (frm _ _ _ [])) _) _)
   simp only[frm]
   go_simp
   exact adds_val rfl
  ·have h4:vs 4=_:=hgr 4 (by decide)
   clear hgr
   change Made _ (Adds _ _ _) (Sem.run _ (execOp (Act.eval (Act.put (frm _ _ _ []) (some 7) (vs 4))) _) _)
   simp only[frm,h4]
   go_simp
   exact adds_val rfl
  ·have h5:vs 5=_:=hgr 5 (by decide)
   clear hgr
   change Made _ (Adds _ _ _) (Sem.run _ (execOp (Act.eval (Act.put (frm _ _ _ []) (some 8) (vs 5))) _) _)
   simp only[frm,h5]
   go_simp
   exact adds_val rfl
  ·have h6:vs 6=_:=hgr 6 (by decide)
   clear hgr
   change Made _ (Adds _ _ _) (Sem.run _ (execOp (Act.eval (Act.put (frm _ _ _ []) (some 9) (vs 6))) _) _)
   simp only[frm,h6]
   have hbk:=HK.out.below hb1 HK.out.lt
   have c0:w1.cell? ⟨g,1,none⟩=some (.int .i64 s.limit):=hbk.cell 1
   clear hbk
   go_simp
   exact adds_val rfl
  ·clear hgr
   change Made _ (Adds _ _ _) (Sem.run _ (execOp (Act.eval (frm _ _ _ [])) _) _)
   simp only[frm]
   go_simp
   exact adds_val rfl
  ·have h8:vs 8=_:=hgr 8 (by decide)
   clear hgr
   change Made _ (Adds _ _ _) (Sem.run _ (execOp (Act.eval (Act.put (frm _ _ _ []) (some 11) (vs 8))) _) _)
   simp only[frm,h8]
   go_simp
   exact adds_val rfl
  ·have h9:vs 9=_:=hgr 9 (by decide)
   clear hgr
   change Made _ (Adds _ _ _) (Sem.run _ (execOp (Act.eval (Act.put (frm _ _ _ []) (some 12) (vs 9))) _) _)
   simp only[frm,h9]
   go_simp
   exact adds_val rfl
  ·have h10:vs 10=_:=hgr 10 (by decide)
   clear hgr
   change Made _ (Adds _ _ _) (Sem.run _ (execOp (Act.eval (Act.put (frm _ _ _ []) (some 13) (vs 10))) _) _)
   simp only[frm,h10]
   have hbk:=HK.out.below hb1 HK.out.lt
   have c0:w1.cell? ⟨g,2,none⟩=some (.slice A s.ws.length c):=hbk.cell 2
   clear hbk
   go_simp
   exact adds_val rfl
  ·have h11:vs 11=_:=hgr 11 (by decide)
   clear hgr
   change Made _ (Adds _ _ _) (Sem.run _ (execOp (Act.eval (Act.put (frm _ _ _ []) (some 14) (vs 11))) _) _)
   simp only[frm,h11]
   have cM:=HCC.out _ hb1
   go_simp
   exact adds_call (T:=OwnT w.heap.size s.ws.length (wds s.ws)) (hT:=OwnT.below) (ob:=fun _=>none) cM fun e w2 ⟨v,he,ho,hb⟩=>⟨v,he,ownBase ho hb1.size,hb,(fun k hk=>nomatch hk)⟩
 ·intro vs w1 hb1 hall hap
  have h3:vs 3=_:=(hall 3 (by omega)).1
  have h7:vs 7=_:=(hall 7 (by omega)).1
  have hown12:w1.ownsRow w.heap.size 54 1 (vs 12) s.ws.length (wds s.ws):=(hall 12 (by omega)).1;obtain⟨A12,c12,h12,_⟩:=own_shape hown12;rw[h12] at hown12
  clear hall hap
  change wpList _ _ _ [_,_,_] (Act.put (Act.put (Act.put (Act.put (Act.put (Act.put (Act.put (Act.put (Act.put (Act.put (Act.put (Act.put (Act.put (frm _ _ _ []) (some 15) (vs 12)) (some 14) (vs 11)) (some 13) (vs 10)) (some 12) (vs 9)) (some 11) (vs 8)) (some 10) (vs 7)) (some 9) (vs 6)) (some 8) (vs 5)) (some 7) (vs 4)) (some 6) (vs 3)) (some 5) (vs 2)) (some 4) (vs 1)) (some 3) (vs 0)) _
  simp only[frm,h3,h7,h12]
  have HB1:=lh hb1
  have H12:=lh hown12
  clear hb1 hown12
  go_wp2_with fail
  go_ret
  have hal:Below w1.heap.size w1 (w1.alloc (.cells #[.int .i64 s.base,.int .i64 s.limit,.slice A12 s.ws.length c12] 123)):=(Below.refl _ _).alloc (Nat.le_refl _) _
  exact⟨_,_,rfl,⟨Bk.new _ _ _,own_local H12.out fun k hk=>hal.block k (H12.out.lt k hk).2,HB1.out.size,H.out.u,H.out.b0,H.out.lim,H.out.l0⟩,HB1.out.size,HB1.out.trans (hal.mono HB1.out.size)⟩
end
end
section
open Go.RowKit Go.Maps Go.MapKept
theorem MapT.clear {P:Program} {k e t:TypeId} {w:World} {b n:Nat} {f:Int→Bool} (ht:P.underlying t=some (.map k e)) (h:MapT P k e w b n f):∃ w',(∀ ty,(Builtin.clear_ #[t] ty #[.map (some b)]).run P w=.ok (.tuple #[]) w')∧MapT P k e w' b 0 (fun _=>false)∧w.grownBy w' (some b):=by
 obtain⟨D,⟨es,clock,hb,_⟩,_⟩:=h
 refine⟨{ w with heap:=w.heap.setIfInBounds b (.map #[] clock) },fun ty=>?_,⟨.map [],⟨#[],clock,(heap_set hb).1,⟨by simp,stamped_empty clock,by simp⟩,Nat.le_refl _,rfl⟩,fun x _=>⟨rfl,rfl⟩⟩,?_⟩
 ·simp[Builtin.clear_,run_underlying ht,MapKept.run_getObj_map hb,MapKept.run_setObj_map _ hb,Result.andThen]
 ·exact⟨rfl,rfl,rfl,by simp,fun k hk hne=>(heap_set hb).2 k (fun e=>hne (by rw[e]))⟩
section
variable {w:World} {B g b n:Nat} {cs:List Int}
theorem Clear_any (h:CR w B g b n cs):Calls Tryz.prog 62 #[.pointer (some ⟨g,0,none⟩)] w fun e w'=>e=.returned (.tuple #[])∧CR w' B g b 0 []∧Kp (fun k=>k=b) w w':=by
 obtain⟨w2,hr,hm,hg⟩:=h.mp.clear Tryz.underlying127
 have c0:w.cell? ⟨g,0,none⟩=some (.map (some b)):=h.hd.cell 0
 have H:=lh h
 have HM:=lh hm
 have HG:=lh hg
 clear h hm hg
 go_enter Tryz.func62,Tryz.ntmps62
 go_wp2_with fail
 go_end0
 refine⟨rfl,⟨?_,HM.out.congr fun x _=>rfl,H.out.ge,H.out.gm⟩,Kp.of_grown HG.out fun k hk=>(Option.some.inj hk).symm⟩
 refine H.out.hd.grown HG.out fun e=>?_
 cases e
 obtain⟨D,⟨es,clock,h1,_⟩,_⟩:=H.out.mp
 have h2:=H.out.hd
 unfold Bk at h2
 rw[h1] at h2
 cases h2
end
end
section
open Go.RowKit Go.Sort Go.Shelf
section
variable {w w' w0:World} {B k:Nat} {L:LP} {m m':Mm} {cs cs' xs:List Int}
end
section
variable {w w2 w4:World} {B k:Nat} {L:LP} {m2 m3 m':Mm} {cs2 cs3 cs' xs:List Int} {A1 A2 A:Option Addr} {c1 c2 c:Nat}
end
end
end Go.Proofs.YtaijmgkjbbiboaaGreat
