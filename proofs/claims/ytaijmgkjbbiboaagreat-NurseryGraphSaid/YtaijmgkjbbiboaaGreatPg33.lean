/- Parts of the proof: Awk10, Cov10, RId. -/
import Derived.Test.YtaijmgkjbbiboaaGreatPgA
import Derived.Test.YtaijmgkjbbiboaaGreatPg14
import Derived.Test.YtaijmgkjbbiboaaGreatPg26
import Derived.Test.YtaijmgkjbbiboaaGreatPg29
import Derived.Test.YtaijmgkjbbiboaaGreatPg32
import Derived.Test.YtaijmgkjbbiboaaGreatPg9
set_option linter.unusedVariables false
set_option linter.unusedSimpArgs false
set_option linter.unusedSectionVars false
set_option maxRecDepth 100000
namespace Go.Proofs.YtaijmgkjbbiboaaGreat
section
open Go.RowKit Go.Sort
attribute [local go_sem] Oper.semAt_some onlyN_normal
theorem flat_getN {α:Type} {f:α→List Value} {s:Nat} (hf:∀ x,(f x).length=s):∀ (l:List α) (i:Nat) (x:α),l[i]?=some x→∀ j,j < s→(l.flatMap f)[i*s+j]?=(f x)[j]?
 | [],i,x,h,_,_=>by simp at h
 | y::l,0,x,h,j,hj=>by
  simp at h
  subst h
  rw[List.flatMap_cons,Nat.zero_mul,Nat.zero_add,List.getElem?_append_left (by rw[hf];exact hj)]
 | y::l,i+1,x,h,j,hj=>by
  have ih:=flat_getN hf l i x (by simpa using h) j hj
  rw[List.flatMap_cons,Nat.succ_mul,List.getElem?_append_right (by rw[hf];omega),hf,show i*s+s+j - s=i*s+j by omega]
  exact ih
theorem Op10.ofBk {w:World} {g:Nat} {t:TypeId} {l:List OpV} (h:Bk w g t (l.flatMap fun x=>x.cells.toList).toArray) (hl:∀ x∈l,x.Ok):Op10 w (some ⟨g,0,none⟩) l :=
 .inr ⟨g,0,rfl,h.lt,fun i x hx=>⟨hl x (List.mem_of_getElem? hx),fun j v hv=>by
  have hj:j < 9:=(Array.getElem?_eq_some_iff.1 hv).1
  have e:=flat_getN (f:=fun x:OpV=>x.cells.toList) (s:=9) (fun _=>rfl) l i x hx j hj
  have h2:=h.cell (0+i*9+j)
  rw[Nat.zero_add] at h2 ⊢
  rw[h2,List.getElem?_toArray,e]
  simpa using hv⟩⟩
def oA:List OpV:=[⟨1,⟨0,1,1⟩,0,0,0,0,false⟩,⟨1,⟨0,1,1⟩,0,0,0,0,false⟩,⟨1,⟨0,1,1⟩,0,0,0,0,false⟩,⟨2,⟨0,0,0⟩,0,1,0,0,true⟩]
theorem oA_ok:∀ x∈oA,x.Ok:=by
 intro x hx
 unfold oA at hx
 simp only[List.mem_cons,List.not_mem_nil,or_false] at hx
 rcases hx with rfl | rfl | rfl | rfl <;> exact⟨by decide,by decide,by decide,by decide,by decide,by decide,⟨by decide,by decide⟩⟩
def cA:Col:=(bld10 100 oA).m.collect (bld10 100 oA).m.yng.chk (bld10 100 oA).cs (rts10 (bld10 100 oA).xs [1,0])
theorem cA_e:cA.e=0:=by kernel_rfl
theorem cA_n:cA.n=2:=by kernel_rfl
theorem cA_o:cA.out=[2,18]:=by kernel_rfl
theorem cA_y:cA.m.yng.top=16777216:=by kernel_rfl
theorem cA_t:cA.m.old.top=8:=by kernel_rfl
theorem cA_s:(bld10 100 oA).m.size=12:=by kernel_rfl
theorem cA_l:oA.length=4:=rfl
theorem adds_new {P:Program} {W:World} {vs:Nat→Value} {w w':World} {T:Value→World→Prop} {hT:∀ v w w',T v w→Below w.heap.size w w'→T v w'} {x:Value} (h:T x w') (hb:Below w.heap.size w w'):Made P (Adds (Ent.of (W:=W) T hT) vs w) (.ok (.value x) w'):=⟨h,hb,(fun k hk=>nomatch hk)⟩
set_option maxHeartbeats 16000000 in
theorem awake10_any (w:World):Calls Tryz.prog 9 #[] w fun e w'=>e=.returned (.bool true)∧Below w.heap.size w w':=by
 go_enter Tryz.func9,Tryz.ntmps9
 go_upto_region 2 with fail
 have hba:Below w.heap.size w (w.alloc (.cells #[.int .i64 0,.int .i64 1,.int .i64 1] 58)):=(Below.refl _ _).alloc (Nat.le_refl _) _
 have hq1:Bk (w.alloc (.cells #[.int .i64 0,.int .i64 1,.int .i64 1] 58)) w.heap.size 58 #[.int .i64 0,.int .i64 1,.int .i64 1]:=Bk.new _ _ _
 generalize w.alloc (.cells #[.int .i64 0,.int .i64 1,.int .i64 1] 58)=w1 at *
 have hlt:w.heap.size < w1.heap.size:=hq1.lt
 have o0:w1.cell? ⟨w.heap.size,0,none⟩=some (.int .i64 0):=hq1.cell 0
 have o1:w1.cell? ⟨w.heap.size,1,none⟩=some (.int .i64 1):=hq1.cell 1
 have o2:w1.cell? ⟨w.heap.size,2,none⟩=some (.int .i64 1):=hq1.cell 2
 have hb2:Below w1.heap.size w1 (w1.alloc (.cells #[.int .u8 1,.int .i64 0,.int .i64 1,.int .i64 1,.int .i64 0,.int .i64 0,.int .i64 0,.int .u64 0,.bool false,.int .u8 1,.int .i64 0,.int .i64 1,.int .i64 1,.int .i64 0,.int .i64 0,.int .i64 0,.int .u64 0,.bool false,.int .u8 1,.int .i64 0,.int .i64 1,.int .i64 1,.int .i64 0,.int .i64 0,.int .i64 0,.int .u64 0,.bool false,.int .u8 2,.int .i64 0,.int .i64 0,.int .i64 0,.int .i64 0,.int .i64 1,.int .i64 0,.int .u64 0,.bool true] 87)):=(Below.refl _ _).alloc (Nat.le_refl _) _
 have hq:Bk (w1.alloc (.cells #[.int .u8 1,.int .i64 0,.int .i64 1,.int .i64 1,.int .i64 0,.int .i64 0,.int .i64 0,.int .u64 0,.bool false,.int .u8 1,.int .i64 0,.int .i64 1,.int .i64 1,.int .i64 0,.int .i64 0,.int .i64 0,.int .u64 0,.bool false,.int .u8 1,.int .i64 0,.int .i64 1,.int .i64 1,.int .i64 0,.int .i64 0,.int .i64 0,.int .u64 0,.bool false,.int .u8 2,.int .i64 0,.int .i64 0,.int .i64 0,.int .i64 0,.int .i64 1,.int .i64 0,.int .u64 0,.bool true] 87)) w1.heap.size 87 #[.int .u8 1,.int .i64 0,.int .i64 1,.int .i64 1,.int .i64 0,.int .i64 0,.int .i64 0,.int .u64 0,.bool false,.int .u8 1,.int .i64 0,.int .i64 1,.int .i64 1,.int .i64 0,.int .i64 0,.int .i64 0,.int .u64 0,.bool false,.int .u8 1,.int .i64 0,.int .i64 1,.int .i64 1,.int .i64 0,.int .i64 0,.int .i64 0,.int .u64 0,.bool false,.int .u8 2,.int .i64 0,.int .i64 0,.int .i64 0,.int .i64 0,.int .i64 1,.int .i64 0,.int .u64 0,.bool true]:=Bk.new _ _ _
 have cO:=Open10_any (Op10.ofBk (l:=oA) hq oA_ok) (Nat.le_refl _) (by decide) 100
 have HB0:=lh (hba.trans (hb2.mono hba.size))
 have HQ:=lh hq
 obtain⟨Q0,hQ0⟩:∃ Q0,Q0=fun(e:Ending) (w':World)=>Op10P (w1.alloc (.cells #[.int .u8 1,.int .i64 0,.int .i64 1,.int .i64 1,.int .i64 0,.int .i64 0,.int .i64 0,.int .u64 0,.bool false,.int .u8 1,.int .i64 0,.int .i64 1,.int .i64 1,.int .i64 0,.int .i64 0,.int .i64 0,.int .u64 0,.bool false,.int .u8 1,.int .i64 0,.int .i64 1,.int .i64 1,.int .i64 0,.int .i64 0,.int .i64 0,.int .u64 0,.bool false,.int .u8 2,.int .i64 0,.int .i64 0,.int .i64 0,.int .i64 0,.int .i64 1,.int .i64 0,.int .u64 0,.bool true] 87)) (bld10 100 oA) e w'∧In10 100 (bld10 100 oA) oA.length:=⟨_,rfl⟩
 rw[← hQ0] at cO
 replace cO:Calls Tryz.prog 12 #[.int .i64 100,.slice (some ⟨w1.heap.size,0,none⟩) 4 4] (w1.alloc (.cells #[.int .u8 1,.int .i64 0,.int .i64 1,.int .i64 1,.int .i64 0,.int .i64 0,.int .i64 0,.int .u64 0,.bool false,.int .u8 1,.int .i64 0,.int .i64 1,.int .i64 1,.int .i64 0,.int .i64 0,.int .i64 0,.int .u64 0,.bool false,.int .u8 1,.int .i64 0,.int .i64 1,.int .i64 1,.int .i64 0,.int .i64 0,.int .i64 0,.int .u64 0,.bool false,.int .u8 2,.int .i64 0,.int .i64 0,.int .i64 0,.int .i64 0,.int .i64 1,.int .i64 0,.int .u64 0,.bool true] 87)) Q0:=cO
 clear hq hb2 hba
 go_wp2_with fail
 refine cO.mono ?_
 rintro e w2 hbp
 rw[hQ0] at hbp
 obtain⟨hop,hin⟩:=hbp
 obtain⟨g1,g2,V1,V2,gt,bt,k,A1,u1,A2,u2,A,u,Ax,cx,Ah,ch,B1,rfl,hen⟩:=Env10.start hop (by have:=hin.cs.len;rw[cA_l] at this;omega)
 have HE:Hid (cA.e=0∧cA.n=2∧cA.out=[2,18]∧cA.m.yng.top=16777216∧cA.m.old.top=8∧(bld10 100 oA).m.size=12):=lh ⟨cA_e,cA_n,cA_o,cA_y,cA_t,cA_s⟩
 unfold cA at HE
 obtain⟨s,hs⟩:∃ s,s=bld10 100 oA:=⟨_,rfl⟩
 rw[← hs] at HE hen hin ⊢
 have HEN:=lh hen
 have HXL:Hid (s.xs.length≤1000):=lh (by have:=hin.xl;rw[cA_l] at this;omega)
 have HIN:=lh hin
 clear hs hop hen hin cO hQ0 o0 o1 o2 hq1 hlt
 go_upto_region 5 with fail
 generalize (w2.alloc (.cells #[.pointer (some ⟨g1,0,none⟩),.pointer (some ⟨g2,0,none⟩)] 29)).alloc (.cells #[.int .i64 s.m.old.base,.int .i64 s.m.old.limit,.slice A1 s.m.old.ws.length u1,.int .i64 s.m.yng.base,.int .i64 s.m.yng.limit,.slice A2 s.m.yng.ws.length u2,.slice A s.cs.length u,.slice Ax s.xs.length cx,.slice Ah s.hs.length ch] 40)=w3 at *
 obtain⟨bm,hbm⟩:∃ bm,bm=w2.heap.size:=⟨_,rfl⟩
 obtain⟨bx,hbx⟩:∃ bx,bx=w2.heap.size+1:=⟨_,rfl⟩
 rw[← hbx,← hbm] at HEN
 rw[← hbx,← hbm]
 clear hbm hbx
 have HM:=lh HEN.out.hm
 have HX:=lh HEN.out.hx
 refine wp_region_first 5 (fun i=>([[],[],[],[],[2,3]]:List (List Nat)).getD i []) (EL [Ent.val (.agg #[.pointer (some ⟨g1,0,none⟩),.pointer (some ⟨g2,0,none⟩)]),Ent.val (.pointer (some ⟨gt,0,none⟩)),Ent.val (.agg #[.int .i64 s.m.old.base,.int .i64 s.m.old.limit,.slice A1 s.m.old.ws.length u1,.int .i64 s.m.yng.base,.int .i64 s.m.yng.limit,.slice A2 s.m.yng.ws.length u2,.slice A s.cs.length u,.slice Ax s.xs.length cx,.slice Ah s.hs.length ch]),Ent.of (IsT w3.heap.size [1,0]) IsT.bl,Ent.of (WsT w3.heap.size (rts10 s.xs [1,0])) WsT.bl]) rfl (by kernel_rfl) (by kernel_rfl) (by kernel_rfl) (by rfl) ?_ ?_
 ·intro i hi o ho vs w1 hb1 hgr
  rcases (show i=0 ∨ i=1 ∨ i=2 ∨ i=3 ∨ i=4 by omega) with rfl | rfl | rfl | rfl | rfl <;> cases ho
  ·clear hgr
   change Made _ (Adds _ _ _) (Sem.run _ (execOp (Act.eval (frm _ _ _ [])) _) _)
   simp only[frm]
   have hbk:=HM.out.below hb1 HM.out.lt
   have c0:w1.cell? ⟨bm,0,none⟩=some (.pointer (some ⟨g1,0,none⟩)):=hbk.cell 0
   have c1:w1.cell? ⟨bm,1,none⟩=some (.pointer (some ⟨g2,0,none⟩)):=hbk.cell 1
   clear hbk
   go_simp
   exact adds_val rfl
  ·clear hgr
   change Made _ (Adds _ _ _) (Sem.run _ (execOp (Act.eval (frm _ _ _ [])) _) _)
   simp only[frm]
   go_simp
   exact adds_val rfl
  ·clear hgr
   change Made _ (Adds _ _ _) (Sem.run _ (execOp (Act.eval (frm _ _ _ [])) _) _)
   simp only[frm]
   have hbk:=HX.out.below hb1 HX.out.lt
   have c0:w1.cell? ⟨bx,0,none⟩=some (.int .i64 s.m.old.base):=hbk.cell 0
   have c1:w1.cell? ⟨bx,1,none⟩=some (.int .i64 s.m.old.limit):=hbk.cell 1
   have c2:w1.cell? ⟨bx,2,none⟩=some (.slice A1 s.m.old.ws.length u1):=hbk.cell 2
   have c3:w1.cell? ⟨bx,3,none⟩=some (.int .i64 s.m.yng.base):=hbk.cell 3
   have c4:w1.cell? ⟨bx,4,none⟩=some (.int .i64 s.m.yng.limit):=hbk.cell 4
   have c5:w1.cell? ⟨bx,5,none⟩=some (.slice A2 s.m.yng.ws.length u2):=hbk.cell 5
   have c6:w1.cell? ⟨bx,6,none⟩=some (.slice A s.cs.length u):=hbk.cell 6
   have c7:w1.cell? ⟨bx,7,none⟩=some (.slice Ax s.xs.length cx):=hbk.cell 7
   have c8:w1.cell? ⟨bx,8,none⟩=some (.slice Ah s.hs.length ch):=hbk.cell 8
   clear hbk
   go_simp
   exact adds_val rfl
  ·clear hgr
   change Made _ (Adds _ _ _) (Sem.run _ (execOp (Act.eval (frm _ _ _ [])) _) _)
   simp only[frm]
   go_simp
   exact adds_new (T:=IsT w3.heap.size [1,0]) (hT:=IsT.bl) ⟨_,_,rfl,Sl.new _ 3 [.int .i64 1,.int .i64 0],Nat.le_refl _,fun b o e=>by cases e;exact⟨hb1.size,by simp⟩⟩ ((Below.refl _ _).alloc (Nat.le_refl _) _)
  ·have h2:vs 2=_:=hgr 2 (by decide)
   obtain⟨Ac,cc,h3,hsc,hcc,hgc⟩:=hgr 3 (by decide)
   clear hgr
   change Made _ (Adds _ _ _) (Sem.run _ (execOp (Act.eval (Act.put (Act.put (frm _ _ _ []) (some 30) (vs 3)) (some 29) (vs 2))) _) _)
   simp only[frm,h2,h3]
   have cM:=(HEN.out.below hb1).roots (chs:=[1,0]) (by have:=HXL.out;omega) ⟨hsc,hcc⟩ (by decide) (by intro x hx;simp at hx;rcases hx with rfl | rfl <;> decide)
   unfold Rts10P at cM
   go_simp
   exact adds_call (T:=WsT w3.heap.size (rts10 s.xs [1,0])) (hT:=WsT.bl) (ob:=fun _=>none) cM fun e w2 ⟨v,he,ho,hb⟩=>⟨v,he,WsT.of ho hb1.size,hb,(fun k hk=>nomatch hk)⟩
 intro vs w1 hb1 hall hap
 have h0:vs 0=_:=(hall 0 (by omega)).1
 have h1:vs 1=_:=(hall 1 (by omega)).1
 have h2:vs 2=_:=(hall 2 (by omega)).1
 obtain⟨Ac,cc,h3,hsc,hcc,hgc⟩:=(hall 3 (by omega)).1
 obtain⟨Ar,cr,h4,hsr,hcr,hgr4⟩:=(hall 4 (by omega)).1
 clear hall hap
 change wpList _ _ _ [_] (Act.put (Act.put (Act.put (Act.put (Act.put (frm _ _ _ []) (some 31) (vs 4)) (some 30) (vs 3)) (some 29) (vs 2)) (some 28) (vs 1)) (some 27) (vs 0)) _
 simp only[frm,h0,h1,h2,h3,h4]
 obtain⟨Rt,hRt⟩:∃ R,R=rts10 s.xs [1,0]:=⟨_,rfl⟩
 have hrl:Rt.length=2:=by rw[hRt];rfl
 have hru:∀ x∈Rt,U64 x:=by rw[hRt];exact rts10_u _ _
 rw[← hRt] at HE hsr hcr
 rw[← hRt]
 have HE3:=lh (HEN.out.below hb1)
 have HRG:=lh hgr4
 have hcol:=HE3.out.collect hsr hcr (by omega) hru (fun b' o e=>by
  have h1:=HRG.out b' o e
  exact⟨h1.2,fun e'=>by have:=HEN.out.lt e';omega⟩) (by have:=HE.out.2.2.2.2.2;omega)
 obtain⟨Q1,hQ1⟩:∃ Q1,Q1=ColP w1 B1 B1 g1 g2 gt bt k V1 V2 (s.m.collect s.m.yng.chk s.cs Rt):=⟨_,rfl⟩
 rw[← hQ1] at hcol
 clear hb1 hsr hcr hgr4 hRt hru hrl HEN HM HX
 go_wp2_with fail
 refine hcol.mono ?_
 rintro e w4 hcp
 rw[hQ1] at hcp
 obtain⟨v,V1',V2',k',rfl,hov,hen4,_,_⟩:=HE3.out.col hcp
 have h1:=HE.out
 obtain⟨C,hC⟩:∃ C,C=s.m.collect s.m.yng.chk s.cs Rt:=⟨_,rfl⟩
 rw[← hC] at hov hen4 h1 ⊢
 obtain⟨he,hn,ho,hy,ht,_⟩:=h1
 rw[he,hn]
 have HE4:=lh hen4
 rw[ho] at hov
 obtain⟨Av,cv,rfl,hcv⟩:=own_shape hov
 have HSV:=lh (own_sl hov)
 have HT:=lh (And.intro hy ht)
 clear hcol hQ1 hcp hov hen4 he hn ho hy ht hC HE HE3 HRG
 go_wp2_with fail
 simp only[normalTo]
 refine phase2_all 6 13 (fun i=>([[],[],[],[],[2,3],[0,1,4],[5],[6],[6],[6],[7],[8],[9]]:List (List Nat)).getD i []) (EL [Ent.val (.agg #[.pointer (some ⟨g1,0,none⟩),.pointer (some ⟨g2,0,none⟩)]),Ent.val (.pointer (some ⟨gt,0,none⟩)),Ent.val (.agg #[.int .i64 s.m.old.base,.int .i64 s.m.old.limit,.slice A1 s.m.old.ws.length u1,.int .i64 s.m.yng.base,.int .i64 s.m.yng.limit,.slice A2 s.m.yng.ws.length u2,.slice A s.cs.length u,.slice Ax s.xs.length cx,.slice Ah s.hs.length ch]),Ent.val (.slice Ac 2 cc),Ent.val (.slice Ar Rt.length cr),Ent.val (.tuple #[.slice Av 2 cv,.int .i64 2,.int .i64 0]),Ent.val (.tuple #[.slice Av 2 cv,.int .i64 2,.int .i64 0]),Ent.val (.slice Av 2 cv),Ent.val (.int .i64 2),Ent.val (.int .i64 0),Ent.val (.slice Av 2 cv),Ent.val (.int .i64 2),Ent.val (.int .i64 0)]) (by kernel_rfl) rfl (by omega) (by kernel_rfl) (by kernel_rfl) (by rfl) ?_ ?_ ?_
 ·intro i hi
  rcases (show i=0 ∨ i=1 ∨ i=2 ∨ i=3 ∨ i=4 ∨ i=5 by omega) with rfl | rfl | rfl | rfl | rfl | rfl <;> exact⟨rfl,fun _=>rfl⟩
 ·intro i hmi hi o ho vs w5 hb1 hgr
  rcases (show i=6 ∨ i=7 ∨ i=8 ∨ i=9 ∨ i=10 ∨ i=11 ∨ i=12 by omega) with rfl | rfl | rfl | rfl | rfl | rfl | rfl <;> cases ho
  ·have h5:vs 5=_:=hgr 5 (by decide)
   clear hgr
   change Made _ (Adds _ _ _) (Sem.run _ (execOp (Act.eval (Act.put (frm _ _ _ []) (some 32) (vs 5))) _) _)
   simp only[frm,h5]
   go_simp
   exact adds_val rfl
  ·have h6:vs 6=_:=hgr 6 (by decide)
   clear hgr
   change Made _ (Adds _ _ _) (Sem.run _ (execOp (Act.eval (Act.put (frm _ _ _ []) (some 26) (vs 6))) _) _)
   simp only[frm,h6]
   go_simp
   exact adds_val rfl
  ·have h6:vs 6=_:=hgr 6 (by decide)
   clear hgr
   change Made _ (Adds _ _ _) (Sem.run _ (execOp (Act.eval (Act.put (frm _ _ _ []) (some 26) (vs 6))) _) _)
   simp only[frm,h6]
   go_simp
   exact adds_val rfl
  ·have h6:vs 6=_:=hgr 6 (by decide)
   clear hgr
   change Made _ (Adds _ _ _) (Sem.run _ (execOp (Act.eval (Act.put (frm _ _ _ []) (some 26) (vs 6))) _) _)
   simp only[frm,h6]
   go_simp
   exact adds_val rfl
  ·have h7:vs 7=_:=hgr 7 (by decide)
   clear hgr
   change Made _ (Adds _ _ _) (Sem.run _ (execOp (Act.eval (Act.put (frm _ _ _ []) (some 33) (vs 7))) _) _)
   simp only[frm,h7]
   go_simp
   exact adds_val rfl
  ·have h8:vs 8=_:=hgr 8 (by decide)
   clear hgr
   change Made _ (Adds _ _ _) (Sem.run _ (execOp (Act.eval (Act.put (frm _ _ _ []) (some 34) (vs 8))) _) _)
   simp only[frm,h8]
   go_simp
   exact adds_val rfl
  ·have h9:vs 9=_:=hgr 9 (by decide)
   clear hgr
   change Made _ (Adds _ _ _) (Sem.run _ (execOp (Act.eval (Act.put (frm _ _ _ []) (some 35) (vs 9))) _) _)
   simp only[frm,h9]
   go_simp
   exact adds_val rfl
 intro vs w5 hb1 hall hap
 have h10:vs 10=_:=(hall 10 (by omega)).1
 have h11:vs 11=_:=(hall 11 (by omega)).1
 have h12:vs 12=_:=(hall 12 (by omega)).1
 clear hall hap
 change wpList _ _ _ [] (Act.put (Act.put (Act.put (Act.put (Act.put (Act.put (Act.put (Act.put (Act.put (Act.put (Act.put (Act.put (Act.put (frm _ _ _ []) (some 8) (vs 12)) (some 7) (vs 11)) (some 6) (vs 10)) (some 35) (vs 9)) (some 34) (vs 8)) (some 33) (vs 7)) (some 26) (vs 6)) (some 32) (vs 5)) (some 31) (vs 4)) (some 30) (vs 3)) (some 29) (vs 2)) (some 28) (vs 1)) (some 27) (vs 0)) _
 simp only[frm,h10,h11,h12]
 have HE5:=lh (HE4.out.below hb1)
 have m0:w5.cell? ⟨bm,0,none⟩=some (.pointer (some ⟨g1,0,none⟩)):=HE5.out.hm.cell 0
 have m1:w5.cell? ⟨bm,1,none⟩=some (.pointer (some ⟨g2,0,none⟩)):=HE5.out.hm.cell 1
 have hsv:=HSV.out.below hb1
 obtain⟨b,o,rfl,hbl,hc⟩:=hsv.2.resolve_left (by simp)
 have v0:w5.cell? ⟨b,o,none⟩=some (.int .u64 2):=hc 0 _ rfl
 have v1:w5.cell? ⟨b,o+1,none⟩=some (.int .u64 18):=hc 1 _ rfl
 have cY:=fun {w':World} (hb:Below w5.heap.size w5 w')=>Top_any (HE5.out.below hb).mr.y
 have cO:=fun {w':World} (hb:Below w5.heap.size w5 w')=>Top_any (HE5.out.below hb).mr.o
 rw[HT.out.1] at cY
 rw[HT.out.2] at cO
 clear hb1 hsv hbl hc h10 h11 h12 HE4 HSV
 go_simp
 change Exit.then _ _ _ _ _
 go_wp2_with fail
 refine(cY (Below.refl _ _)).mono ?_
 rintro e w6 ⟨rfl,hb6⟩
 have HE6:=lh (HE5.out.below hb6)
 have HB6:=lh hb6
 have m0:w6.cell? ⟨bm,0,none⟩=some (.pointer (some ⟨g1,0,none⟩)):=HE6.out.hm.cell 0
 have m1:w6.cell? ⟨bm,1,none⟩=some (.pointer (some ⟨g2,0,none⟩)):=HE6.out.hm.cell 1
 clear hb6 cY v0 v1
 go_wp2_with fail
 refine(cO HB6.out).mono ?_
 rintro e w7 ⟨rfl,hb7⟩
 have HE7:=lh (HE6.out.below hb7)
 clear hb7 cO m0 m1
 go_wp2_with fail
 go_ret
 exact⟨rfl,HB0.out.trans (HE7.out.bl.mono HB0.out.size)⟩
end
section
open Go.RowKit Go.Sort
attribute [local go_sem] Oper.semAt_some onlyN_normal
section
variable {w:World} {B g:Nat} {s:Spc} {V:Value} {A:Option Addr} {c:Nat}
theorem RChk_any (h:RS w s A c):Calls Tryz.prog 16 #[.agg #[.int .i64 s.base,.int .i64 s.limit,.slice A s.ws.length c]] w fun e w'=>e=.returned (.int .i64 s.chk)∧Below w.heap.size w w':=by
 have hb0:Below w.heap.size w (w.alloc (.cells #[.int .i64 s.base,.int .i64 s.limit,.slice A s.ws.length c] 33)):=(Below.refl _ _).alloc (Nat.le_refl _) _
 have HQ:Hid (Bk (w.alloc (.cells #[.int .i64 s.base,.int .i64 s.limit,.slice A s.ws.length c] 33)) w.heap.size 33 #[.int .i64 s.base,.int .i64 s.limit,.slice A s.ws.length c]):=lh (Bk.new _ _ _)
 have HS:=lh (h.below hb0)
 have HB:=lh hb0
 have hlim:=h.lim
 have hl0:=h.l0
 have hbb:=h.b0
 have HW:Hid (0≤s.walk.2∧s.walk.2≤s.ws.length):=lh ⟨by omega,by
  have h1:=(s.walkFrom_mem s.ws.length 0 (by omega)).2.1
  rw[← Spc.walk_eq] at h1
  omega⟩
 clear h hb0
 by_cases hc:s.walk.2=s.ws.length
 ·have hk:s.chk=0:=by unfold Spc.chk;rw[if_pos hc]
  have hwe:s.wend=s.top:=by unfold Spc.wend Spc.top;rw[hc]
  have cW:=RWalk_any HS.out
  unfold rsV at cW
  rw[hwe] at cW
  rw[hk]
  clear hc hk hwe
  go_enter Tryz.func16,Tryz.ntmps16
  go_upto_region 1 with fail
  generalize w.alloc (.cells #[.int .i64 s.base,.int .i64 s.limit,.slice A s.ws.length c] 33)=w0 at *
  have q0:w0.cell? ⟨w.heap.size,0,none⟩=some (.int .i64 s.base):=HQ.out.cell 0
  have q1:w0.cell? ⟨w.heap.size,1,none⟩=some (.int .i64 s.limit):=HQ.out.cell 1
  have q2:w0.cell? ⟨w.heap.size,2,none⟩=some (.slice A s.ws.length c):=HQ.out.cell 2
  go_wp2_with fail
  refine cW.mono ?_
  rintro e w1 ⟨v,rfl,_,hb1⟩
  have HQ1:=HQ.out.below hb1 HQ.out.lt
  have cT:=RTop_any (HS.out.below hb1)
  unfold rsV at cT
  have HB1:=lh (HB.out.trans (hb1.mono HB.out.size))
  clear q0 q1 q2 cW hb1
  have q0:w1.cell? ⟨w.heap.size,0,none⟩=some (.int .i64 s.base):=HQ1.cell 0
  have q1:w1.cell? ⟨w.heap.size,1,none⟩=some (.int .i64 s.limit):=HQ1.cell 1
  have q2:w1.cell? ⟨w.heap.size,2,none⟩=some (.slice A s.ws.length c):=HQ1.cell 2
  clear HQ1
  go_wp2_with fail
  refine cT.mono ?_
  rintro e w2 ⟨rfl,hb2⟩
  have HB2:=lh (HB1.out.trans (hb2.mono HB1.out.size))
  clear q0 q1 q2 cT hb2
  go_wp2_with fail
  go_ret
  exact⟨rfl,HB2.out⟩
 ·have hk:s.chk=11:=by unfold Spc.chk;rw[if_neg hc]
  have hne:s.wend≠s.top:=by unfold Spc.wend Spc.top;omega
  have cW:=RWalk_any HS.out
  unfold rsV at cW
  have de:decide (s.wend≠s.top)=true:=decide_eq_true hne
  have de2:(s.wend == s.top)=false:=by simpa using hne
  have de3:(s.wend != s.top)=true:=by simpa using hne
  rw[hk]
  clear hc hk hne
  go_enter Tryz.func16,Tryz.ntmps16
  go_upto_region 1 with fail
  generalize w.alloc (.cells #[.int .i64 s.base,.int .i64 s.limit,.slice A s.ws.length c] 33)=w0 at *
  have q0:w0.cell? ⟨w.heap.size,0,none⟩=some (.int .i64 s.base):=HQ.out.cell 0
  have q1:w0.cell? ⟨w.heap.size,1,none⟩=some (.int .i64 s.limit):=HQ.out.cell 1
  have q2:w0.cell? ⟨w.heap.size,2,none⟩=some (.slice A s.ws.length c):=HQ.out.cell 2
  go_wp2_with fail
  refine cW.mono ?_
  rintro e w1 ⟨v,rfl,_,hb1⟩
  have HQ1:=HQ.out.below hb1 HQ.out.lt
  have cT:=RTop_any (HS.out.below hb1)
  unfold rsV at cT
  have HB1:=lh (HB.out.trans (hb1.mono HB.out.size))
  clear q0 q1 q2 cW hb1
  have q0:w1.cell? ⟨w.heap.size,0,none⟩=some (.int .i64 s.base):=HQ1.cell 0
  have q1:w1.cell? ⟨w.heap.size,1,none⟩=some (.int .i64 s.limit):=HQ1.cell 1
  have q2:w1.cell? ⟨w.heap.size,2,none⟩=some (.slice A s.ws.length c):=HQ1.cell 2
  clear HQ1
  go_wp2_with fail
  refine cT.mono ?_
  rintro e w2 ⟨rfl,hb2⟩
  have HB2:=lh (HB1.out.trans (hb2.mono HB1.out.size))
  clear q0 q1 q2 cT hb2
  go_wp2_with fail
  go_ret
  exact⟨rfl,HB2.out⟩
end
section
variable {w:World} {s:W10} {A1:Option Addr} {u1:Nat} {A2:Option Addr} {u2:Nat} {A:Option Addr} {u:Nat} {Ax:Option Addr} {cx:Nat} {Ah:Option Addr} {ch:Nat}
set_option maxHeartbeats 4000000 in
theorem Covered10_any (hm:RM w s.m A1 u1 A2 u2) (ok:s.m.Ok) (hrc:RC w s.cs A u) (hcl:s.cs.length≤100000):Calls Tryz.prog 15 #[.agg #[.int .i64 s.m.old.base,.int .i64 s.m.old.limit,.slice A1 s.m.old.ws.length u1,.int .i64 s.m.yng.base,.int .i64 s.m.yng.limit,.slice A2 s.m.yng.ws.length u2,.slice A s.cs.length u,.slice Ax s.xs.length cx,.slice Ah s.hs.length ch]] w fun e w'=>e=.returned (.bool (decide ((s.m.crossing (cardIn s.cs)).length=(s.m.crossing fun _=>true).length)))∧Below w.heap.size w w':=by
 have hb0:Below w.heap.size w (w.alloc (.cells #[.int .i64 s.m.old.base,.int .i64 s.m.old.limit,.slice A1 s.m.old.ws.length u1,.int .i64 s.m.yng.base,.int .i64 s.m.yng.limit,.slice A2 s.m.yng.ws.length u2,.slice A s.cs.length u,.slice Ax s.xs.length cx,.slice Ah s.hs.length ch] 40)):=(Below.refl _ _).alloc (Nat.le_refl _) _
 have HX:Hid (Bk (w.alloc (.cells #[.int .i64 s.m.old.base,.int .i64 s.m.old.limit,.slice A1 s.m.old.ws.length u1,.int .i64 s.m.yng.base,.int .i64 s.m.yng.limit,.slice A2 s.m.yng.ws.length u2,.slice A s.cs.length u,.slice Ax s.xs.length cx,.slice Ah s.hs.length ch] 40)) w.heap.size 40 #[.int .i64 s.m.old.base,.int .i64 s.m.old.limit,.slice A1 s.m.old.ws.length u1,.int .i64 s.m.yng.base,.int .i64 s.m.yng.limit,.slice A2 s.m.yng.ws.length u2,.slice A s.cs.length u,.slice Ax s.xs.length cx,.slice Ah s.hs.length ch]):=lh (Bk.new _ _ _)
 have HR:=lh (hm.below hb0)
 have HC:=lh (hrc.below hb0)
 have HB:=lh hb0
 have HOK:=lh ok
 have HCL:=lh hcl
 obtain⟨K1,hK1⟩:∃ K,K=s.m.crossing (cardIn s.cs):=⟨_,rfl⟩
 obtain⟨K2,hK2⟩:∃ K,K=s.m.crossing fun _=>true:=⟨_,rfl⟩
 rw[← hK1,← hK2]
 have HK1:=lh hK1
 have HK2:=lh hK2
 obtain⟨k1,hk1⟩:∃ k,K1.length=k:=⟨_,rfl⟩
 obtain⟨k2,hk2⟩:∃ k,K2.length=k:=⟨_,rfl⟩
 rw[hk1,hk2]
 clear hm hrc ok hcl hb0 hK1 hK2
 by_cases he:k1=k2
 ·subst he
  have HL1:=lh hk1
  have HL2:=lh hk2
  rw[show decide (k1=k1)=true from decide_eq_true rfl]
  clear hk1 hk2
  go_enter Tryz.func15,Tryz.ntmps15
  go_upto_region 1 with fail
  generalize w.alloc (.cells #[.int .i64 s.m.old.base,.int .i64 s.m.old.limit,.slice A1 s.m.old.ws.length u1,.int .i64 s.m.yng.base,.int .i64 s.m.yng.limit,.slice A2 s.m.yng.ws.length u2,.slice A s.cs.length u,.slice Ax s.xs.length cx,.slice Ah s.hs.length ch] 40)=w0 at *
  obtain⟨bz,hbz⟩:∃ bz,bz=w.heap.size:=⟨_,rfl⟩
  rw[← hbz] at HX
  rw[← hbz]
  clear hbz
  refine wp_region_adds0 11 (fun i=>([[],[0],[],[2],[1,3],[4],[],[6],[7],[8],[5,9]]:List (List Nat)).getD i []) (EL [Ent.val (.pointer (some ⟨bz,0,none⟩)),Ent.val (.agg #[.int .i64 s.m.old.base,.int .i64 s.m.old.limit,.slice A1 s.m.old.ws.length u1,.int .i64 s.m.yng.base,.int .i64 s.m.yng.limit,.slice A2 s.m.yng.ws.length u2]),Ent.val (.pointer (some ⟨bz,6,none⟩)),Ent.val (.agg #[.slice A s.cs.length u]),Ent.of (IsT w0.heap.size K1) IsT.bl,Ent.val (.int .i64 (k1:Int)),Ent.val (.pointer (some ⟨bz,0,none⟩)),Ent.val (.agg #[.int .i64 s.m.old.base,.int .i64 s.m.old.limit,.slice A1 s.m.old.ws.length u1,.int .i64 s.m.yng.base,.int .i64 s.m.yng.limit,.slice A2 s.m.yng.ws.length u2]),Ent.of (IsT w0.heap.size K2) IsT.bl,Ent.val (.int .i64 (k1:Int)),Ent.val (.bool true)]) (by kernel_rfl) (by kernel_rfl) (by kernel_rfl) (by kernel_rfl) (by rfl) ?_ ?_
  ·intro i hi o ho vs w1 hb1 hgr
   rcases (show i=0 ∨ i=1 ∨ i=2 ∨ i=3 ∨ i=4 ∨ i=5 ∨ i=6 ∨ i=7 ∨ i=8 ∨ i=9 ∨ i=10 by omega) with rfl | rfl | rfl | rfl | rfl | rfl | rfl | rfl | rfl | rfl | rfl <;> cases ho
   ·clear hgr
    change Made _ (Adds _ _ _) (Sem.run _ (execOp (Act.eval (frm _ _ _ [])) _) _)
    simp only[frm]
    go_simp
    exact adds_val rfl
   ·have h0:vs 0=_:=hgr 0 (by decide)
    clear hgr
    change Made _ (Adds _ _ _) (Sem.run _ (execOp (Act.eval (Act.put (frm _ _ _ []) (some 3) (vs 0))) _) _)
    simp only[frm,h0]
    have hbk:=HX.out.below hb1 HX.out.lt
    have c0:w1.cell? ⟨bz,0,none⟩=some (.int .i64 s.m.old.base):=hbk.cell 0
    have c1:w1.cell? ⟨bz,1,none⟩=some (.int .i64 s.m.old.limit):=hbk.cell 1
    have c2:w1.cell? ⟨bz,2,none⟩=some (.slice A1 s.m.old.ws.length u1):=hbk.cell 2
    have c3:w1.cell? ⟨bz,3,none⟩=some (.int .i64 s.m.yng.base):=hbk.cell 3
    have c4:w1.cell? ⟨bz,4,none⟩=some (.int .i64 s.m.yng.limit):=hbk.cell 4
    have c5:w1.cell? ⟨bz,5,none⟩=some (.slice A2 s.m.yng.ws.length u2):=hbk.cell 5
    clear hbk
    go_simp
    exact adds_val rfl
   ·clear hgr
    change Made _ (Adds _ _ _) (Sem.run _ (execOp (Act.eval (frm _ _ _ [])) _) _)
    simp only[frm]
    go_simp
    exact adds_val rfl
   ·have h2:vs 2=_:=hgr 2 (by decide)
    clear hgr
    change Made _ (Adds _ _ _) (Sem.run _ (execOp (Act.eval (Act.put (frm _ _ _ []) (some 5) (vs 2))) _) _)
    simp only[frm,h2]
    have hbk:=HX.out.below hb1 HX.out.lt
    have c0:w1.cell? ⟨bz,6,none⟩=some (.slice A s.cs.length u):=hbk.cell 6
    clear hbk
    go_simp
    exact adds_val rfl
   ·have h1:vs 1=_:=hgr 1 (by decide)
    have h3:vs 3=_:=hgr 3 (by decide)
    clear hgr
    change Made _ (Adds _ _ _) (Sem.run _ (execOp (Act.eval (Act.put (Act.put (frm _ _ _ []) (some 6) (vs 3)) (some 4) (vs 1))) _) _)
    simp only[frm,h1,h3]
    have cM:=RRemembered_any (HR.out.below hb1) (HC.out.below hb1) HCL.out HOK.out
    unfold rmV at cM
    rw[← HK1.out] at cM
    go_simp
    exact adds_call (T:=IsT w0.heap.size K1) (hT:=IsT.bl) (ob:=fun _=>none) cM fun e w2 ⟨v,he,ho,hb⟩=>⟨v,he,IsT.of ho hb1.size,hb,(fun k hk=>nomatch hk)⟩
   ·obtain⟨A4,c4,h4,hs4,hc4,hg4⟩:=hgr 4 (by decide)
    clear hgr
    change Made _ (Adds _ _ _) (Sem.run _ (execOp (Act.eval (Act.put (frm _ _ _ []) (some 7) (vs 4))) _) _)
    simp only[frm,h4,HL1.out]
    go_simp
    exact adds_val rfl
   ·clear hgr
    change Made _ (Adds _ _ _) (Sem.run _ (execOp (Act.eval (frm _ _ _ [])) _) _)
    simp only[frm]
    go_simp
    exact adds_val rfl
   ·have h6:vs 6=_:=hgr 6 (by decide)
    clear hgr
    change Made _ (Adds _ _ _) (Sem.run _ (execOp (Act.eval (Act.put (frm _ _ _ []) (some 9) (vs 6))) _) _)
    simp only[frm,h6]
    have hbk:=HX.out.below hb1 HX.out.lt
    have c0:w1.cell? ⟨bz,0,none⟩=some (.int .i64 s.m.old.base):=hbk.cell 0
    have c1:w1.cell? ⟨bz,1,none⟩=some (.int .i64 s.m.old.limit):=hbk.cell 1
    have c2:w1.cell? ⟨bz,2,none⟩=some (.slice A1 s.m.old.ws.length u1):=hbk.cell 2
    have c3:w1.cell? ⟨bz,3,none⟩=some (.int .i64 s.m.yng.base):=hbk.cell 3
    have c4:w1.cell? ⟨bz,4,none⟩=some (.int .i64 s.m.yng.limit):=hbk.cell 4
    have c5:w1.cell? ⟨bz,5,none⟩=some (.slice A2 s.m.yng.ws.length u2):=hbk.cell 5
    clear hbk
    go_simp
    exact adds_val rfl
   ·have h7:vs 7=_:=hgr 7 (by decide)
    clear hgr
    change Made _ (Adds _ _ _) (Sem.run _ (execOp (Act.eval (Act.put (frm _ _ _ []) (some 10) (vs 7))) _) _)
    simp only[frm,h7]
    have cM:=RCrossing_any (HR.out.below hb1) HOK.out
    unfold rmV at cM
    rw[← HK2.out] at cM
    go_simp
    exact adds_call (T:=IsT w0.heap.size K2) (hT:=IsT.bl) (ob:=fun _=>none) cM fun e w2 ⟨v,he,ho,hb⟩=>⟨v,he,IsT.of ho hb1.size,hb,(fun k hk=>nomatch hk)⟩
   ·obtain⟨A8,c8,h8,hs8,hc8,hg8⟩:=hgr 8 (by decide)
    clear hgr
    change Made _ (Adds _ _ _) (Sem.run _ (execOp (Act.eval (Act.put (frm _ _ _ []) (some 11) (vs 8))) _) _)
    simp only[frm,h8,HL2.out]
    go_simp
    exact adds_val rfl
   ·have h5:vs 5=_:=hgr 5 (by decide)
    have h9:vs 9=_:=hgr 9 (by decide)
    clear hgr
    change Made _ (Adds _ _ _) (Sem.run _ (execOp (Act.eval (Act.put (Act.put (frm _ _ _ []) (some 12) (vs 9)) (some 8) (vs 5))) _) _)
    simp only[frm,h5,h9]
    go_simp
    exact adds_val rfl
  intro vs w1 hb1 hall hap
  have h10:vs 10=_:=(hall 10 (by omega)).1
  clear hall hap
  change wpList _ _ _ [_] (Act.put (Act.put (Act.put (Act.put (Act.put (Act.put (Act.put (Act.put (Act.put (Act.put (Act.put (frm _ _ _ []) (some 13) (vs 10)) (some 12) (vs 9)) (some 11) (vs 8)) (some 10) (vs 7)) (some 9) (vs 6)) (some 8) (vs 5)) (some 7) (vs 4)) (some 6) (vs 3)) (some 5) (vs 2)) (some 4) (vs 1)) (some 3) (vs 0)) _
  simp only[frm,h10]
  have HB1:=lh (HB.out.trans (hb1.mono HB.out.size))
  clear hb1 h10
  go_wp2_with fail
  go_ret
  exact⟨rfl,HB1.out⟩
 ·have HL1:=lh hk1
  have HL2:=lh hk2
  rw[show decide (k1=k2)=false from decide_eq_false he]
  have de:((k1:Int) == (k2:Int))=false:=by simpa using (fun e:(k1:Int)=(k2:Int)=>he (by omega))
  have de2:decide ((k1:Int)=(k2:Int))=false:=decide_eq_false (by omega)
  have de3:(k1 == k2)=false:=by simpa using he
  clear hk1 hk2 he
  go_enter Tryz.func15,Tryz.ntmps15
  go_upto_region 1 with fail
  generalize w.alloc (.cells #[.int .i64 s.m.old.base,.int .i64 s.m.old.limit,.slice A1 s.m.old.ws.length u1,.int .i64 s.m.yng.base,.int .i64 s.m.yng.limit,.slice A2 s.m.yng.ws.length u2,.slice A s.cs.length u,.slice Ax s.xs.length cx,.slice Ah s.hs.length ch] 40)=w0 at *
  obtain⟨bz,hbz⟩:∃ bz,bz=w.heap.size:=⟨_,rfl⟩
  rw[← hbz] at HX
  rw[← hbz]
  clear hbz
  refine wp_region_adds0 11 (fun i=>([[],[0],[],[2],[1,3],[4],[],[6],[7],[8],[5,9]]:List (List Nat)).getD i []) (EL [Ent.val (.pointer (some ⟨bz,0,none⟩)),Ent.val (.agg #[.int .i64 s.m.old.base,.int .i64 s.m.old.limit,.slice A1 s.m.old.ws.length u1,.int .i64 s.m.yng.base,.int .i64 s.m.yng.limit,.slice A2 s.m.yng.ws.length u2]),Ent.val (.pointer (some ⟨bz,6,none⟩)),Ent.val (.agg #[.slice A s.cs.length u]),Ent.of (IsT w0.heap.size K1) IsT.bl,Ent.val (.int .i64 (k1:Int)),Ent.val (.pointer (some ⟨bz,0,none⟩)),Ent.val (.agg #[.int .i64 s.m.old.base,.int .i64 s.m.old.limit,.slice A1 s.m.old.ws.length u1,.int .i64 s.m.yng.base,.int .i64 s.m.yng.limit,.slice A2 s.m.yng.ws.length u2]),Ent.of (IsT w0.heap.size K2) IsT.bl,Ent.val (.int .i64 (k2:Int)),Ent.val (.bool false)]) (by kernel_rfl) (by kernel_rfl) (by kernel_rfl) (by kernel_rfl) (by rfl) ?_ ?_
  ·intro i hi o ho vs w1 hb1 hgr
   rcases (show i=0 ∨ i=1 ∨ i=2 ∨ i=3 ∨ i=4 ∨ i=5 ∨ i=6 ∨ i=7 ∨ i=8 ∨ i=9 ∨ i=10 by omega) with rfl | rfl | rfl | rfl | rfl | rfl | rfl | rfl | rfl | rfl | rfl <;> cases ho
   ·clear hgr
    change Made _ (Adds _ _ _) (Sem.run _ (execOp (Act.eval (frm _ _ _ [])) _) _)
    simp only[frm]
    go_simp
    exact adds_val rfl
   ·have h0:vs 0=_:=hgr 0 (by decide)
    clear hgr
    change Made _ (Adds _ _ _) (Sem.run _ (execOp (Act.eval (Act.put (frm _ _ _ []) (some 3) (vs 0))) _) _)
    simp only[frm,h0]
    have hbk:=HX.out.below hb1 HX.out.lt
    have c0:w1.cell? ⟨bz,0,none⟩=some (.int .i64 s.m.old.base):=hbk.cell 0
    have c1:w1.cell? ⟨bz,1,none⟩=some (.int .i64 s.m.old.limit):=hbk.cell 1
    have c2:w1.cell? ⟨bz,2,none⟩=some (.slice A1 s.m.old.ws.length u1):=hbk.cell 2
    have c3:w1.cell? ⟨bz,3,none⟩=some (.int .i64 s.m.yng.base):=hbk.cell 3
    have c4:w1.cell? ⟨bz,4,none⟩=some (.int .i64 s.m.yng.limit):=hbk.cell 4
    have c5:w1.cell? ⟨bz,5,none⟩=some (.slice A2 s.m.yng.ws.length u2):=hbk.cell 5
    clear hbk
    go_simp
    exact adds_val rfl
   ·clear hgr
    change Made _ (Adds _ _ _) (Sem.run _ (execOp (Act.eval (frm _ _ _ [])) _) _)
    simp only[frm]
    go_simp
    exact adds_val rfl
   ·have h2:vs 2=_:=hgr 2 (by decide)
    clear hgr
    change Made _ (Adds _ _ _) (Sem.run _ (execOp (Act.eval (Act.put (frm _ _ _ []) (some 5) (vs 2))) _) _)
    simp only[frm,h2]
    have hbk:=HX.out.below hb1 HX.out.lt
    have c0:w1.cell? ⟨bz,6,none⟩=some (.slice A s.cs.length u):=hbk.cell 6
    clear hbk
    go_simp
    exact adds_val rfl
   ·have h1:vs 1=_:=hgr 1 (by decide)
    have h3:vs 3=_:=hgr 3 (by decide)
    clear hgr
    change Made _ (Adds _ _ _) (Sem.run _ (execOp (Act.eval (Act.put (Act.put (frm _ _ _ []) (some 6) (vs 3)) (some 4) (vs 1))) _) _)
    simp only[frm,h1,h3]
    have cM:=RRemembered_any (HR.out.below hb1) (HC.out.below hb1) HCL.out HOK.out
    unfold rmV at cM
    rw[← HK1.out] at cM
    go_simp
    exact adds_call (T:=IsT w0.heap.size K1) (hT:=IsT.bl) (ob:=fun _=>none) cM fun e w2 ⟨v,he,ho,hb⟩=>⟨v,he,IsT.of ho hb1.size,hb,(fun k hk=>nomatch hk)⟩
   ·obtain⟨A4,c4,h4,hs4,hc4,hg4⟩:=hgr 4 (by decide)
    clear hgr
    change Made _ (Adds _ _ _) (Sem.run _ (execOp (Act.eval (Act.put (frm _ _ _ []) (some 7) (vs 4))) _) _)
    simp only[frm,h4,HL1.out]
    go_simp
    exact adds_val rfl
   ·clear hgr
    change Made _ (Adds _ _ _) (Sem.run _ (execOp (Act.eval (frm _ _ _ [])) _) _)
    simp only[frm]
    go_simp
    exact adds_val rfl
   ·have h6:vs 6=_:=hgr 6 (by decide)
    clear hgr
    change Made _ (Adds _ _ _) (Sem.run _ (execOp (Act.eval (Act.put (frm _ _ _ []) (some 9) (vs 6))) _) _)
    simp only[frm,h6]
    have hbk:=HX.out.below hb1 HX.out.lt
    have c0:w1.cell? ⟨bz,0,none⟩=some (.int .i64 s.m.old.base):=hbk.cell 0
    have c1:w1.cell? ⟨bz,1,none⟩=some (.int .i64 s.m.old.limit):=hbk.cell 1
    have c2:w1.cell? ⟨bz,2,none⟩=some (.slice A1 s.m.old.ws.length u1):=hbk.cell 2
    have c3:w1.cell? ⟨bz,3,none⟩=some (.int .i64 s.m.yng.base):=hbk.cell 3
    have c4:w1.cell? ⟨bz,4,none⟩=some (.int .i64 s.m.yng.limit):=hbk.cell 4
    have c5:w1.cell? ⟨bz,5,none⟩=some (.slice A2 s.m.yng.ws.length u2):=hbk.cell 5
    clear hbk
    go_simp
    exact adds_val rfl
   ·have h7:vs 7=_:=hgr 7 (by decide)
    clear hgr
    change Made _ (Adds _ _ _) (Sem.run _ (execOp (Act.eval (Act.put (frm _ _ _ []) (some 10) (vs 7))) _) _)
    simp only[frm,h7]
    have cM:=RCrossing_any (HR.out.below hb1) HOK.out
    unfold rmV at cM
    rw[← HK2.out] at cM
    go_simp
    exact adds_call (T:=IsT w0.heap.size K2) (hT:=IsT.bl) (ob:=fun _=>none) cM fun e w2 ⟨v,he,ho,hb⟩=>⟨v,he,IsT.of ho hb1.size,hb,(fun k hk=>nomatch hk)⟩
   ·obtain⟨A8,c8,h8,hs8,hc8,hg8⟩:=hgr 8 (by decide)
    clear hgr
    change Made _ (Adds _ _ _) (Sem.run _ (execOp (Act.eval (Act.put (frm _ _ _ []) (some 11) (vs 8))) _) _)
    simp only[frm,h8,HL2.out]
    go_simp
    exact adds_val rfl
   ·have h5:vs 5=_:=hgr 5 (by decide)
    have h9:vs 9=_:=hgr 9 (by decide)
    clear hgr
    change Made _ (Adds _ _ _) (Sem.run _ (execOp (Act.eval (Act.put (Act.put (frm _ _ _ []) (some 12) (vs 9)) (some 8) (vs 5))) _) _)
    simp only[frm,h5,h9]
    go_simp
    exact adds_val rfl
  intro vs w1 hb1 hall hap
  have h10:vs 10=_:=(hall 10 (by omega)).1
  clear hall hap
  change wpList _ _ _ [_] (Act.put (Act.put (Act.put (Act.put (Act.put (Act.put (Act.put (Act.put (Act.put (Act.put (Act.put (frm _ _ _ []) (some 13) (vs 10)) (some 12) (vs 9)) (some 11) (vs 8)) (some 10) (vs 7)) (some 9) (vs 6)) (some 8) (vs 5)) (some 7) (vs 4)) (some 6) (vs 3)) (some 5) (vs 2)) (some 4) (vs 1)) (some 3) (vs 0)) _
  simp only[frm,h10]
  have HB1:=lh (HB.out.trans (hb1.mono HB.out.size))
  clear hb1 h10
  go_wp2_with fail
  go_ret
  exact⟨rfl,HB1.out⟩
end
end
section
open Go.RowKit Go.Sort
attribute [local go_sem] Oper.semAt_some onlyN_normal
section
variable {w:World} {m:Mm} {A1 A2:Option Addr} {u1 u2:Nat}
set_option maxHeartbeats 4000000 in
theorem RID_yes (h:RM w m A1 u1 A2 u2) (ok:m.Ok) {a:Int} (h0:(m.hdr a).1=0) (ha:0≤a∧a≤4294967296):Calls Tryz.prog 22 #[.agg #[.int .i64 m.old.base,.int .i64 m.old.limit,.slice A1 m.old.ws.length u1,.int .i64 m.yng.base,.int .i64 m.yng.limit,.slice A2 m.yng.ws.length u2],.int .i64 a] w fun e w'=>e=.returned (.tuple #[.agg #[.int .i64 (m.idOf a).m,.int .i64 (m.idOf a).s],.int .i64 0])∧Below w.heap.size w w':=by
 obtain⟨v,hv,hid,hvu⟩:=ok.id_at h0
 rw[← hid]
 have hHB:Below w.heap.size w ((w.alloc (.cells #[.int .i64 m.old.base,.int .i64 m.old.limit,.slice A1 m.old.ws.length u1,.int .i64 m.yng.base,.int .i64 m.yng.limit,.slice A2 m.yng.ws.length u2] 35)).alloc (.cells #[.int .i64 0,.int .i64 0] 65)):=((Below.refl _ _).alloc (Nat.le_refl _) _).alloc (by simp) _
 have HB:=lh hHB
 have HM:Hid (Bk ((w.alloc (.cells #[.int .i64 m.old.base,.int .i64 m.old.limit,.slice A1 m.old.ws.length u1,.int .i64 m.yng.base,.int .i64 m.yng.limit,.slice A2 m.yng.ws.length u2] 35)).alloc (.cells #[.int .i64 0,.int .i64 0] 65)) w.heap.size 35 #[.int .i64 m.old.base,.int .i64 m.old.limit,.slice A1 m.old.ws.length u1,.int .i64 m.yng.base,.int .i64 m.yng.limit,.slice A2 m.yng.ws.length u2]):=lh ((Bk.new _ _ _).alloc _)
 have HI:Hid (Bk ((w.alloc (.cells #[.int .i64 m.old.base,.int .i64 m.old.limit,.slice A1 m.old.ws.length u1,.int .i64 m.yng.base,.int .i64 m.yng.limit,.slice A2 m.yng.ws.length u2] 35)).alloc (.cells #[.int .i64 0,.int .i64 0] 65)) (w.heap.size+1) 65 #[.int .i64 0,.int .i64 0]):=lh (Bk.here _ _ _ (by simp))
 have H:=lh (h.below hHB)
 have cH:=RHeader_any H.out a
 unfold rmV hdrV at cH
 dsimp only [Hdr.val] at cH
 rw[h0] at cH
 have HV:=lh hv
 have HVU:=lh hvu
 have cD:=fun w=>RDecodeID_any hvu w
 unfold Id.val at cD
 have hwp:IntKind.i64.wrap (a+1)=a+1:=IntWalk.i64_in _ (by omega)
 clear h hHB hv hid hvu h0
 go_enter Tryz.func22,Tryz.ntmps22
 go_upto_region 1 with fail
 generalize (w.alloc (.cells #[.int .i64 m.old.base,.int .i64 m.old.limit,.slice A1 m.old.ws.length u1,.int .i64 m.yng.base,.int .i64 m.yng.limit,.slice A2 m.yng.ws.length u2] 35)).alloc (.cells #[.int .i64 0,.int .i64 0] 65)=wB at *
 have q0:wB.cell? ⟨w.heap.size,0,none⟩=some (.int .i64 m.old.base):=HM.out.cell 0
 have q1:wB.cell? ⟨w.heap.size,1,none⟩=some (.int .i64 m.old.limit):=HM.out.cell 1
 have q2:wB.cell? ⟨w.heap.size,2,none⟩=some (.slice A1 m.old.ws.length u1):=HM.out.cell 2
 have q3:wB.cell? ⟨w.heap.size,3,none⟩=some (.int .i64 m.yng.base):=HM.out.cell 3
 have q4:wB.cell? ⟨w.heap.size,4,none⟩=some (.int .i64 m.yng.limit):=HM.out.cell 4
 have q5:wB.cell? ⟨w.heap.size,5,none⟩=some (.slice A2 m.yng.ws.length u2):=HM.out.cell 5
 go_wp2_with fail
 refine cH.mono ?_
 rintro e w1 ⟨rfl,hb1⟩
 have hbx:=hb1.trans (((Below.refl w1.heap.size w1).alloc (Nat.le_refl _) (.cells #[.int .i64 (m.hdr a).2.k,.int .i64 (m.hdr a).2.c,.int .i64 (m.hdr a).2.f] 58)).mono hb1.size)
 clear cH q0 q1 q2 q3 q4 q5
 go_upto_region 4 with fail
 have HB1:=lh (HB.out.trans (hbx.mono HB.out.size))
 have HM1:=lh (HM.out.below hbx HM.out.lt)
 have HI1:=lh (HI.out.below hbx HI.out.lt)
 have H1:=lh (H.out.below hbx)
 clear hbx hb1 HB HM HI H
 generalize w1.alloc (.cells #[.int .i64 (m.hdr a).2.k,.int .i64 (m.hdr a).2.c,.int .i64 (m.hdr a).2.f] 58)=w2 at *
 have q0:w2.cell? ⟨w.heap.size,0,none⟩=some (.int .i64 m.old.base):=HM1.out.cell 0
 have q1:w2.cell? ⟨w.heap.size,1,none⟩=some (.int .i64 m.old.limit):=HM1.out.cell 1
 have q2:w2.cell? ⟨w.heap.size,2,none⟩=some (.slice A1 m.old.ws.length u1):=HM1.out.cell 2
 have q3:w2.cell? ⟨w.heap.size,3,none⟩=some (.int .i64 m.yng.base):=HM1.out.cell 3
 have q4:w2.cell? ⟨w.heap.size,4,none⟩=some (.int .i64 m.yng.limit):=HM1.out.cell 4
 have q5:w2.cell? ⟨w.heap.size,5,none⟩=some (.slice A2 m.yng.ws.length u2):=HM1.out.cell 5
 have cL:=RLoad_any H1.out (a+1)
 rw[HV.out] at cL
 unfold rmV atV at cL
 go_wp2_with fail
 refine cL.mono ?_
 rintro e w3 ⟨rfl,hb3⟩
 have HB3:=lh (HB1.out.trans (hb3.mono HB1.out.size))
 have HI3:=lh (HI1.out.below hb3 HI1.out.lt)
 clear cL q0 q1 q2 q3 q4 q5 hb3 HM1 HI1 HB1 H1
 go_wp2_with fail
 refine(cD _).mono ?_
 rintro e w4 ⟨rfl,hb4⟩
 have HB4:=lh (HB3.out.trans (hb4.mono HB3.out.size))
 have HI4:=lh (HI3.out.below hb4 HI3.out.lt)
 have d0:w4.cell? ⟨w.heap.size+1,0,none⟩=some (.int .i64 0):=HI4.out.cell 0
 have d1:w4.cell? ⟨w.heap.size+1,1,none⟩=some (.int .i64 0):=HI4.out.cell 1
 have f0:=HI4.out.free 0
 have f1:=HI4.out.free 1
 clear hb4 cD HB3 HI3
 go_wp2_with fail
 refine bodyPost_ret (v:=.tuple #[.agg #[.int .i64 (dI v).m,.int .i64 (dI v).s],.int .i64 0]) (by simp[results,Tryz.results22,go_sem,d0,d1]) rfl ⟨rfl,?_⟩
 exact(HB4.out.setCell (p:=⟨w.heap.size+1,0,none⟩) (by simp) _).setCell (p:=⟨w.heap.size+1,1,none⟩) (by simp) _
end
end
end Go.Proofs.YtaijmgkjbbiboaaGreat
