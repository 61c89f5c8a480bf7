/- Parts of the proof: NOp. -/
import Derived.Test.YtaijmgkjbbiboaaGreatPcA
import Derived.Test.YtaijmgkjbbiboaaGreatPc19
import Derived.Test.YtaijmgkjbbiboaaGreatPc21
import Derived.Test.YtaijmgkjbbiboaaGreatPc24
set_option linter.unusedVariables false
set_option linter.unusedSimpArgs false
set_option linter.unusedSectionVars false
set_option maxRecDepth 100000
namespace Go.Proofs.YtaijmgkjbbiboaaGreat
section
open Go.RowKit Go.Sort
attribute [local go_sem] Oper.semAt_some onlyN_normal
theorem hcs_get:∀ (l:List Hdr) (j:Nat) (h:Hdr),l[j]?=some h→(hcs l)[j*3]?=some (.int .i64 h.k)∧(hcs l)[j*3+1]?=some (.int .i64 h.c)∧(hcs l)[j*3+2]?=some (.int .i64 h.f)
 | [],j,i,h=>by cases h
 | x::l,0,i,h=>by
  simp at h
  subst h
  exact⟨rfl,rfl,rfl⟩
 | x::l,j+1,i,h=>by
  have ih:=hcs_get l j i (by simpa using h)
  unfold hcs at ih ⊢
  rw[List.flatMap_cons]
  have hl:[Value.int .i64 x.k,Value.int .i64 x.c,Value.int .i64 x.f].length=3:=rfl
  rw[List.getElem?_append_right (by rw[hl];omega),List.getElem?_append_right (by rw[hl];omega),List.getElem?_append_right (by rw[hl];omega),hl]
  rw[show(j+1)*3 - 3=j*3 by omega,show(j+1)*3+1 - 3=j*3+1 by omega,show(j+1)*3+2 - 3=j*3+2 by omega]
  exact ih
theorem st2_kp {w:World} {q:Nat} {v0 v1:Value}:Kp (fun k=>k=q) w ((w.setCell ⟨q,0,none⟩ v0).setCell ⟨q,1,none⟩ v1) :=
 (Kp.setCell (S:=fun k=>k=q) _ ⟨q,0,none⟩ _ rfl).trans (Kp.setCell (S:=fun k=>k=q) _ ⟨q,1,none⟩ _ rfl) fun _ _ e=>e
theorem st11_kp {w:World} {p q:Nat} (u0 u1 v0 v1 v2 v3 v4 v5 v6 v7 v8:Value):Kp (fun k=>k=p ∨ k=q) w (((((((((((w.setCell ⟨p,0,none⟩ u0).setCell ⟨p,1,none⟩ u1).setCell ⟨q,0,none⟩ v0).setCell ⟨q,1,none⟩ v1).setCell ⟨q,2,none⟩ v2).setCell ⟨q,3,none⟩ v3).setCell ⟨q,4,none⟩ v4).setCell ⟨q,5,none⟩ v5).setCell ⟨q,6,none⟩ v6).setCell ⟨q,7,none⟩ v7).setCell ⟨q,8,none⟩ v8).drew :=
 ((((Kp.refl (fun k=>k=p ∨ k=q) w).trans (st2_kp (q:=p) (v0:=u0) (v1:=u1)) fun _ _ e=>.inl e).trans (st9_kp (Nx:=q) (v0:=v0) (v1:=v1) (v2:=v2) (v3:=v3) (v4:=v4) (v5:=v5) (v6:=v6) (v7:=v7) (v8:=v8)) fun _ _ e=>.inr e)).drew
theorem st11_p {w:World} {p q:Nat} {t:TypeId} {a0 a1:Value} (u0 u1 v0 v1 v2 v3 v4 v5 v6 v7 v8:Value) (h:Bk w p t #[a0,a1]) (hne:p≠q):Bk (((((((((((w.setCell ⟨p,0,none⟩ u0).setCell ⟨p,1,none⟩ u1).setCell ⟨q,0,none⟩ v0).setCell ⟨q,1,none⟩ v1).setCell ⟨q,2,none⟩ v2).setCell ⟨q,3,none⟩ v3).setCell ⟨q,4,none⟩ v4).setCell ⟨q,5,none⟩ v5).setCell ⟨q,6,none⟩ v6).setCell ⟨q,7,none⟩ v7).setCell ⟨q,8,none⟩ v8).drew p t #[u0,u1] :=
 (((h.set 0 u0).set 1 u1).kp (st9_kp (Nx:=q) (v0:=v0) (v1:=v1) (v2:=v2) (v3:=v3) (v4:=v4) (v5:=v5) (v6:=v6) (v7:=v7) (v8:=v8)) hne).drewI
theorem st11_q {w:World} {p q:Nat} {t:TypeId} {x0 x1 x2 x3 x4 x5 x6 x7 x8:Value} (u0 u1 v0 v1 v2 v3 v4 v5 v6 v7 v8:Value) (h:Bk w q t #[x0,x1,x2,x3,x4,x5,x6,x7,x8]) (hne:q≠p):Bk (((((((((((w.setCell ⟨p,0,none⟩ u0).setCell ⟨p,1,none⟩ u1).setCell ⟨q,0,none⟩ v0).setCell ⟨q,1,none⟩ v1).setCell ⟨q,2,none⟩ v2).setCell ⟨q,3,none⟩ v3).setCell ⟨q,4,none⟩ v4).setCell ⟨q,5,none⟩ v5).setCell ⟨q,6,none⟩ v6).setCell ⟨q,7,none⟩ v7).setCell ⟨q,8,none⟩ v8).drew q t #[v0,v1,v2,v3,v4,v5,v6,v7,v8] :=
 (((((h.kp (st2_kp (q:=p) (v0:=u0) (v1:=u1)) hne).set6b v0 v1 v2 v3 v4 v5).set 6 v6).set 7 v7).set 8 v8).drewI
theorem own_addr {w:World} {B n z c:Nat} {e:TypeId} {A:Option Addr} {xs:List Value} (h:w.ownsRow B e z (.slice A n c) n xs) {k:Nat} (hk:(Value.slice A n c).ownBlock=some k):A=some ⟨k,0,none⟩:=by
 obtain⟨_,⟨h1,_⟩ | ⟨g,cap,cur,h1,_⟩⟩:=h
 ·rw[h1] at hk;cases hk
 ·rw[h1] at hk
  injection hk with hk
  injection h1 with h1
  have hk2:g=k:=hk
  rw[h1,hk2]
/-- what open leaves -/
def Op10P (w:World) (s:W10) (e:Ending) (w':World):Prop:=∃ g1 g2 V1 V2 gt bt k A1 c1 A2 c2 A c Ax cx Ah ch B1,e=.returned (.tuple #[.agg #[.pointer (some ⟨g1,0,none⟩),.pointer (some ⟨g2,0,none⟩)],.pointer (some ⟨gt,0,none⟩),.agg #[.int .i64 s.m.old.base,.int .i64 s.m.old.limit,.slice A1 s.m.old.ws.length c1,.int .i64 s.m.yng.base,.int .i64 s.m.yng.limit,.slice A2 s.m.yng.ws.length c2,.slice A s.cs.length c,.slice Ax s.xs.length cx,.slice Ah s.hs.length ch],.bool true])∧w.heap.size≤B1∧B1≤w'.heap.size∧MR w' B1 g1 g2 V1 V2 s.m∧CR w' B1 gt bt k s.cs∧k≤s.cs.length∧RM w' s.m A1 c1 A2 c2∧RC w' s.cs A c∧w'.ownsRow w.heap.size 3 1 (.slice Ax s.xs.length cx) s.xs.length (ints s.xs)∧w'.ownsRow w.heap.size 58 3 (.slice Ah s.hs.length ch) s.hs.length (hcs s.hs)∧(∀ b o,A1=some ⟨b,o,none⟩ ∨ A2=some ⟨b,o,none⟩ ∨ A=some ⟨b,o,none⟩ ∨ Ax=some ⟨b,o,none⟩ ∨ Ah=some ⟨b,o,none⟩→b < B1)∧Below w.heap.size w w'
section
variable {w:World} {l:List OpV} {Al:Option Addr} {cl:Nat}
set_option maxHeartbeats 16000000 in
theorem Open10_any (hl:Op10 w Al l) (hcl:l.length≤cl) (hn:l.length≤1000) (limit:Int):Calls Tryz.prog 12 #[.int .i64 limit,.slice Al l.length cl] w (fun e w'=>Op10P w (bld10 limit l) e w'∧In10 limit (bld10 limit l) l.length):=by
 have cB:=fun {w1:World} (hb:Below w.heap.size w w1)=>Build10_any (hl.below hb rfl) hcl hn limit
 have cN:=fun {w1:World}=>ONew_any (w:=w1) limit
 have cC:=fun {w1:World}=>CNew_any (w:=w1)
 clear hl hcl
 go_enter Tryz.func12,Tryz.ntmps12
 go_upto_region 1 with fail
 have HBA:Hid (Below w.heap.size w ((w.alloc (.cells #[.pointer none,.pointer none] 29)).alloc (.cells #[.int .i64 0,.int .i64 0,.slice none 0 0,.int .i64 0,.int .i64 0,.slice none 0 0,.slice none 0 0,.slice none 0 0,.slice none 0 0] 40))):=lh (((Below.refl _ w).alloc (Nat.le_refl _) _).alloc (by simp) _)
 have HQ40:Hid (Bk ((w.alloc (.cells #[.pointer none,.pointer none] 29)).alloc (.cells #[.int .i64 0,.int .i64 0,.slice none 0 0,.int .i64 0,.int .i64 0,.slice none 0 0,.slice none 0 0,.slice none 0 0,.slice none 0 0] 40)) w.heap.size 29 #[.pointer none,.pointer none]):=lh ((Bk.new _ _ _).alloc _)
 have HQ60:Hid (Bk ((w.alloc (.cells #[.pointer none,.pointer none] 29)).alloc (.cells #[.int .i64 0,.int .i64 0,.slice none 0 0,.int .i64 0,.int .i64 0,.slice none 0 0,.slice none 0 0,.slice none 0 0,.slice none 0 0] 40)) (w.heap.size+1) 40 #[.int .i64 0,.int .i64 0,.slice none 0 0,.int .i64 0,.int .i64 0,.slice none 0 0,.slice none 0 0,.slice none 0 0,.slice none 0 0]):=lh (Bk.here _ _ _ (by simp))
 generalize ((w.alloc (.cells #[.pointer none,.pointer none] 29)).alloc (.cells #[.int .i64 0,.int .i64 0,.slice none 0 0,.int .i64 0,.int .i64 0,.slice none 0 0,.slice none 0 0,.slice none 0 0,.slice none 0 0] 40))=wA at *
 obtain⟨q4,hq4⟩:∃ q4,q4=w.heap.size:=⟨_,rfl⟩
 obtain⟨q6,hq6⟩:∃ q6,q6=w.heap.size+1:=⟨_,rfl⟩
 have HNQ:Hid (w.heap.size≤q4∧w.heap.size≤q6∧q4≠q6):=lh (by omega)
 rw[← hq6] at HQ60
 rw[← hq4] at HQ40
 rw[← hq6,← hq4]
 clear hq4 hq6
 have cB1:=cB HBA.out
 clear cB
 go_wp2_with fail
 refine cB1.mono ?_
 rintro e w1 ⟨⟨A1,c1,A2,c2,A,c,Vx,Vh,rfl,hrm,hrc,hox,hoh,hge,hb1⟩,hin⟩
 obtain⟨s,hs⟩:∃ s,s=bld10 limit l:=⟨_,rfl⟩
 rw[← hs] at hrm hrc hox hoh hin
 unfold wrC
 try rw[← hs]
 have HSE:=lh hs
 clear hs cB1
 obtain⟨Ax,cx,rfl,hcx⟩:=own_shape hox
 obtain⟨Ah,ch,rfl,hch⟩:=own_shape hoh
 have hQ4:=HQ40.out.below hb1 HQ40.out.lt
 have hQ6:=HQ60.out.below hb1 HQ60.out.lt
 have y0:w1.cell? ⟨q6,0,none⟩=some (.int .i64 0):=hQ6.cell 0
 have yf0:w1.frozen? ⟨q6,0,none⟩=false:=hQ6.free 0
 have y1:w1.cell? ⟨q6,1,none⟩=some (.int .i64 0):=hQ6.cell 1
 have yf1:w1.frozen? ⟨q6,1,none⟩=false:=hQ6.free 1
 have y2:w1.cell? ⟨q6,2,none⟩=some (.slice none 0 0):=hQ6.cell 2
 have yf2:w1.frozen? ⟨q6,2,none⟩=false:=hQ6.free 2
 have y3:w1.cell? ⟨q6,3,none⟩=some (.int .i64 0):=hQ6.cell 3
 have yf3:w1.frozen? ⟨q6,3,none⟩=false:=hQ6.free 3
 have y4:w1.cell? ⟨q6,4,none⟩=some (.int .i64 0):=hQ6.cell 4
 have yf4:w1.frozen? ⟨q6,4,none⟩=false:=hQ6.free 4
 have y5:w1.cell? ⟨q6,5,none⟩=some (.slice none 0 0):=hQ6.cell 5
 have yf5:w1.frozen? ⟨q6,5,none⟩=false:=hQ6.free 5
 have y6:w1.cell? ⟨q6,6,none⟩=some (.slice none 0 0):=hQ6.cell 6
 have yf6:w1.frozen? ⟨q6,6,none⟩=false:=hQ6.free 6
 have y7:w1.cell? ⟨q6,7,none⟩=some (.slice none 0 0):=hQ6.cell 7
 have yf7:w1.frozen? ⟨q6,7,none⟩=false:=hQ6.free 7
 have y8:w1.cell? ⟨q6,8,none⟩=some (.slice none 0 0):=hQ6.cell 8
 have yf8:w1.frozen? ⟨q6,8,none⟩=false:=hQ6.free 8
 have hk9:Kp (fun k=>k=q6) w1 ((((st6 w1 q6 (.int .i64 s.m.old.base) (.int .i64 s.m.old.limit) (.slice A1 s.m.old.ws.length c1) (.int .i64 s.m.yng.base) (.int .i64 s.m.yng.limit) (.slice A2 s.m.yng.ws.length c2)).setCell ⟨q6,6,none⟩ (.slice A s.cs.length c)).setCell ⟨q6,7,none⟩ (.slice Ax s.xs.length cx)).setCell ⟨q6,8,none⟩ (.slice Ah s.hs.length ch)):=st9_kp
 have hx9:Bk ((((st6 w1 q6 (.int .i64 s.m.old.base) (.int .i64 s.m.old.limit) (.slice A1 s.m.old.ws.length c1) (.int .i64 s.m.yng.base) (.int .i64 s.m.yng.limit) (.slice A2 s.m.yng.ws.length c2)).setCell ⟨q6,6,none⟩ (.slice A s.cs.length c)).setCell ⟨q6,7,none⟩ (.slice Ax s.xs.length cx)).setCell ⟨q6,8,none⟩ (.slice Ah s.hs.length ch)) q6 40 #[.int .i64 s.m.old.base,.int .i64 s.m.old.limit,.slice A1 s.m.old.ws.length c1,.int .i64 s.m.yng.base,.int .i64 s.m.yng.limit,.slice A2 s.m.yng.ws.length c2,.slice A s.cs.length c,.slice Ax s.xs.length cx,.slice Ah s.hs.length ch]:=by
  have h1:=((((hQ6.set6b (.int .i64 s.m.old.base) (.int .i64 s.m.old.limit) (.slice A1 s.m.old.ws.length c1) (.int .i64 s.m.yng.base) (.int .i64 s.m.yng.limit) (.slice A2 s.m.yng.ws.length c2)).set 6 (.slice A s.cs.length c)).set 7 (.slice Ax s.xs.length cx)).set 8 (.slice Ah s.hs.length ch))
  exact h1
 have hq6l:=HQ60.out.lt
 have hq4l:=HQ40.out.lt
 have hneA:∀ b o,A1=some ⟨b,o,none⟩ ∨ A2=some ⟨b,o,none⟩ ∨ A=some ⟨b,o,none⟩→b≠q6∧b≠q4:=fun b o e=>by have h1:=hge b o e;omega
 have HNA:=lh hneA
 have HRM2:=lh (hrm.kp hk9 fun b o e=>(hneA b o (e.imp id .inl)).1)
 have HRC2:=lh (hrc.kp hk9 fun b o e=>(hneA b o (.inr (.inr e))).1)
 have HOX2:=lh (own_base (own_kp hox hk9 fun k hk1 e=>ownRow_bk hox hQ6 (by decide) (e ▸ hk1)) HBA.out.size)
 have HOH2:=lh (own_base (own_kp hoh hk9 fun k hk1 e=>ownRow_bk hoh hQ6 (by decide) (e ▸ hk1)) HBA.out.size)
 have HQ42:=lh (hQ4.kp hk9 HNQ.out.2.2)
 have HQ62:=lh hx9
 have hb1':=HBA.out.trans (hb1.mono HBA.out.size)
 have HB2:=lh (hk9.toBelow hb1' hb1'.size fun k e=>by rw[e];exact HNQ.out.2.1)
 have HIN:=lh hin
 have HCX:=lh (And.intro hcx hch)
 clear hk9 hx9 hq6l hq4l hneA hrm hrc hox hoh hge hb1 hb1' hQ4 hQ6 HQ40 HQ60 HBA hin hcx hch
 go_upto_region 2 with fail
 clear y0 yf0 y1 yf1 y2 yf2 y3 yf3 y4 yf4 y5 yf5 y6 yf6 y7 yf7 y8 yf8
 obtain⟨w2,hw2⟩:∃ w2,((((st6 w1 q6 (.int .i64 s.m.old.base) (.int .i64 s.m.old.limit) (.slice A1 s.m.old.ws.length c1) (.int .i64 s.m.yng.base) (.int .i64 s.m.yng.limit) (.slice A2 s.m.yng.ws.length c2)).setCell ⟨q6,6,none⟩ (.slice A s.cs.length c)).setCell ⟨q6,7,none⟩ (.slice Ax s.xs.length cx)).setCell ⟨q6,8,none⟩ (.slice Ah s.hs.length ch))=w2:=⟨_,rfl⟩
 rw[hw2] at HRM2 HRC2 HOX2 HOH2 HQ42 HQ62 HB2
 change (((((((((w1.setCell ⟨q6,0,none⟩ (.int .i64 s.m.old.base)).setCell ⟨q6,1,none⟩ (.int .i64 s.m.old.limit)).setCell ⟨q6,2,none⟩ (.slice A1 s.m.old.ws.length c1)).setCell ⟨q6,3,none⟩ (.int .i64 s.m.yng.base)).setCell ⟨q6,4,none⟩ (.int .i64 s.m.yng.limit)).setCell ⟨q6,5,none⟩ (.slice A2 s.m.yng.ws.length c2)).setCell ⟨q6,6,none⟩ (.slice A s.cs.length c)).setCell ⟨q6,7,none⟩ (.slice Ax s.xs.length cx)).setCell ⟨q6,8,none⟩ (.slice Ah s.hs.length ch))=w2 at hw2
 rw[hw2]
 clear hw2
 obtain⟨B1,hB1⟩:∃ B1,B1=w2.heap.size:=⟨_,rfl⟩
 have HBB:=lh hB1
 have HLT:Hid (∀ b o,A1=some ⟨b,o,none⟩ ∨ A2=some ⟨b,o,none⟩ ∨ A=some ⟨b,o,none⟩ ∨ Ax=some ⟨b,o,none⟩ ∨ Ah=some ⟨b,o,none⟩→b < B1):=lh (fun b o e=>by
  rw[hB1]
  rcases e with e | e | e | e | e
  ·exact HRM2.out.o.lt b o e
  ·exact HRM2.out.y.lt b o e
  ·exact HRC2.out.lt b o e
  ·exact(HOX2.out.lt b (by rw[e];rfl)).2
  ·exact(HOH2.out.lt b (by rw[e];rfl)).2)
 clear hB1
 go_wp2_with fail
 refine cN.mono ?_
 rintro e w3 ⟨g1,g2,rfl,hmr,hb3⟩
 unfold memV
 go_wp2_with fail
 refine cC.mono ?_
 rintro e w4 ⟨gt,bt,rfl,hcr,hb4⟩
 have hb34:=hb3.trans (hb4.mono hb3.size)
 have hmr4:=hmr.below hb4
 have hQ44:=HQ42.out.below hb34 HQ42.out.lt
 have hk5:Kp (fun k=>k=q4) w4 ((w4.setCell ⟨q4,0,none⟩ (.pointer (some ⟨g1,0,none⟩))).setCell ⟨q4,1,none⟩ (.pointer (some ⟨g2,0,none⟩))):=st2_kp
 have hq4B:=HQ42.out.lt
 have hq6B:=HQ62.out.lt
 have HS5:Hid (OpS ((w4.setCell ⟨q4,0,none⟩ (.pointer (some ⟨g1,0,none⟩))).setCell ⟨q4,1,none⟩ (.pointer (some ⟨g2,0,none⟩))) ((w4.setCell ⟨q4,0,none⟩ (.pointer (some ⟨g1,0,none⟩))).setCell ⟨q4,1,none⟩ (.pointer (some ⟨g2,0,none⟩))) B1 g1 g2 gt bt 0 (.slice none 0 0) (.slice none 0 0) (Mm.new limit) []):=lh (by
  rw[HBB.out]
  exact⟨⟨hmr4.o.kp hk5 (fun e=>by have:=hmr4.o.ge;omega) (fun k hk=>by cases hk),hmr4.y.kp hk5 (fun e=>by have:=hmr4.y.ge;omega) (fun k hk=>by cases hk),hmr4.ok,hmr4.gg,hmr4.vv⟩,(hcr.base10 hb3.size).kp hk5 (fun e=>by have:=hcr.ge;have:=hb3.size;omega) (fun e=>by have:=hcr.gm;have:=hb3.size;omega),Kp.refl _ _⟩)
 have HQ4:Hid (Bk ((w4.setCell ⟨q4,0,none⟩ (.pointer (some ⟨g1,0,none⟩))).setCell ⟨q4,1,none⟩ (.pointer (some ⟨g2,0,none⟩))) q4 29 #[.pointer (some ⟨g1,0,none⟩),.pointer (some ⟨g2,0,none⟩)]):=lh ((hQ44.set 0 _).set 1 _)
 have HQ6:=lh ((HQ62.out.below hb34 HQ62.out.lt).kp hk5 (Ne.symm HNQ.out.2.2))
 have HRM5:=lh ((HRM2.out.below hb34).kp hk5 fun b o e=>(HNA.out b o (e.imp id .inl)).2)
 have HRC5:=lh ((HRC2.out.below hb34).kp hk5 fun b o e=>(HNA.out b o (.inr (.inr e))).2)
 have HOX5:=lh (own_kp (own_local HOX2.out fun k hk=>hb34.block k (HOX2.out.lt k hk).2) hk5 fun k hk1 e=>ownRow_bk HOX2.out HQ42.out (by decide) (e ▸ hk1))
 have HOH5:=lh (own_kp (own_local HOH2.out fun k hk=>hb34.block k (HOH2.out.lt k hk).2) hk5 fun k hk1 e=>ownRow_bk HOH2.out HQ42.out (by decide) (e ▸ hk1))
 have hb4':=HB2.out.trans (hb34.mono HB2.out.size)
 have HB5:=lh (hk5.toBelow hb4' hb4'.size fun k e=>by rw[e];exact HNQ.out.1)
 have HNE:Hid (w.heap.size≤B1∧q4 < B1∧q6 < B1∧B1≤((w4.setCell ⟨q4,0,none⟩ (.pointer (some ⟨g1,0,none⟩))).setCell ⟨q4,1,none⟩ (.pointer (some ⟨g2,0,none⟩))).heap.size):=lh ⟨by rw[HBB.out];exact HB2.out.size,by rw[HBB.out];exact hq4B,by rw[HBB.out];exact hq6B,by rw[HBB.out];exact Nat.le_trans hb34.size hk5.size⟩
 have z0:w4.cell? ⟨q4,0,none⟩=some (.pointer none):=hQ44.cell 0
 have zf0:w4.frozen? ⟨q4,0,none⟩=false:=hQ44.free 0
 have z1:w4.cell? ⟨q4,1,none⟩=some (.pointer none):=hQ44.cell 1
 have zf1:w4.frozen? ⟨q4,1,none⟩=false:=hQ44.free 1
 clear hmr hb3 hcr hb4 hb34 hmr4 hQ44 hk5 hq4B hq6B hb4' HRM2 HRC2 HOX2 HOH2 HQ42 HQ62 HB2 HBB cN cC
 go_upto_region 3 with fail
 clear z0 zf0 z1 zf1
 generalize (w4.setCell ⟨q4,0,none⟩ (.pointer (some ⟨g1,0,none⟩))).setCell ⟨q4,1,none⟩ (.pointer (some ⟨g2,0,none⟩))=w5 at *
 have a0:w5.cell? ⟨q4,0,none⟩=some (.pointer (some ⟨g1,0,none⟩)):=HQ4.out.cell 0
 have a1:w5.cell? ⟨q4,1,none⟩=some (.pointer (some ⟨g2,0,none⟩)):=HQ4.out.cell 1
 go_upto_region 5 with fail
 clear a0 a1
 obtain⟨ma,hma0,hmas,hmae⟩:=HIN.out.re
 have HMA:=lh (And.intro hma0 (And.intro hmas hmae))
 have hxl0:=HIN.out.xl
 have hhl0:=HIN.out.hl
 have hcs0:=HIN.out.cs.len
 have HXL:Hid (s.xs.length≤1000∧s.cs.length≤1000):=lh ⟨by omega,by omega⟩
 have HHL:=lh hhl0
 clear hma0 hmas hmae hxl0 hhl0 hcs0
 go_wp2_with fail
 go_loopw [5,8] (fun pt i wr=>∃ (j:Nat) (V1 V2:Value),pt=.pointer (some ⟨gt,0,none⟩)∧i=.int .i64 (j:Int)∧j≤s.xs.length∧OpS w5 wr B1 g1 g2 gt bt 0 V1 V2 (ma j) []) (fun _ i _=>s.xs.length - (intOf i).toNat)
 case atStart=>exact⟨0,_,_,rfl,rfl,Nat.zero_le _,by rw[HMA.out.1];exact HS5.out⟩
 case round =>
  clear HS5
  obtain⟨j,V1,V2,rfl,rfl,hj,hos⟩:=hrel
  have HOS:=lh hos
  have hszr:=hos.k.size
  have hBr:B1≤wr.heap.size:=Nat.le_trans HNE.out.2.2.2 hszr
  have HBR:=lh hBr
  have hk0:=hos.k
  have hQ4r:=HQ4.out.kp hk0 (by have:=HNE.out.2.1;omega)
  have hQ6r:=HQ6.out.kp hk0 (by have:=HNE.out.2.2.1;omega)
  have HQ4r:=lh hQ4r
  have HQ6r:=lh hQ6r
  clear hszr hBr
  by_cases hlt:j < s.xs.length
  ·have t1:s.xs[j]?=some s.xs[j]:=List.getElem?_eq_getElem hlt
   have hlh:j < s.hs.length:=by rw[HHL.out];exact hlt
   have t2:s.hs[j]?=some s.hs[j]:=List.getElem?_eq_getElem hlh
   have hre:=HMA.out.2.1 j _ _ t1 t2
   have hxl:s.xs.length≤1000:=HXL.out.1
   obtain⟨bb,oo,rfl,hb1,hc1⟩:=(own_sl HOX5.out).get hlt
   have e1:w5.cell? ⟨bb,oo+j,none⟩=some (.int .i64 s.xs[j]):=hc1 j _ (ints_get t1)
   obtain⟨gh,caph,hvh,_,_,hghl,hslh⟩:=ownSls HOH5.out (by omega)
   injection hvh with hvh1 hvh2 hvh3
   subst hvh1 hvh3
   obtain⟨bh,oh,ebh,hbh,hch⟩:=hslh.2.resolve_left (by omega)
   injection ebh with ebh
   injection ebh with ebh1 ebh2 ebh3
   subst ebh1 ebh2
   obtain⟨u0,u1,u2⟩:=hcs_get s.hs j _ t2
   have f0:=hch _ _ u0
   have f1:=hch _ _ u1
   have f2:=hch _ _ u2
   have hbB:bb < B1:=HLT.out bb oo (.inr (.inr (.inr (.inl rfl))))
   have hgB:gh < B1:=HLT.out gh 0 (.inr (.inr (.inr (.inr rfl))))
   generalize s.xs[j]=x at e1 hre t1
   generalize s.hs[j]=hd at f0 f1 f2 hre t2
   have HE:Hid (w5.cell? ⟨bb,oo+j,none⟩=some (.int .i64 x)∧bb < B1):=lh ⟨e1,hbB⟩
   have x0:wr.cell? ⟨bb,oo+j,none⟩=some (.int .i64 x):=hk0.cell e1 (by show ¬ B1≤bb;omega)
   have v0:wr.cell? ⟨gh,j*3,none⟩=some (.int .i64 hd.k):=by have h9:=hk0.cell f0 (by show ¬ B1≤gh;omega);rw[Nat.zero_add] at h9;exact h9
   have v1:wr.cell? ⟨gh,j*3+1,none⟩=some (.int .i64 hd.c):=by have h9:=hk0.cell f1 (by show ¬ B1≤gh;omega);rw[Nat.zero_add] at h9;exact h9
   have v2:wr.cell? ⟨gh,j*3+2,none⟩=some (.int .i64 hd.f):=by have h9:=hk0.cell f2 (by show ¬ B1≤gh;omega);rw[Nat.zero_add] at h9;exact h9
   have hjc:j < cx:=by have:=HCX.out.1;omega
   have hjh:j < ch:=by have:=HCX.out.2;omega
   have a0:wr.cell? ⟨q4,0,none⟩=some (.pointer (some ⟨g1,0,none⟩)):=hQ4r.cell 0
   have a1:wr.cell? ⟨q4,1,none⟩=some (.pointer (some ⟨g2,0,none⟩)):=hQ4r.cell 1
   have m7:wr.cell? ⟨q6,7,none⟩=some (.slice (some ⟨bb,oo,none⟩) s.xs.length cx):=hQ6r.cell 7
   have m8:wr.cell? ⟨q6,8,none⟩=some (.slice (some ⟨gh,0,none⟩) s.hs.length ch):=hQ6r.cell 8
   have cA:=HOS.out.alloc HBR.out (decide (16777216≤x)) hd ⟨1,1+(j:Int)⟩
   rw[hre] at cA
   unfold Hdr.val Id.val at cA
   clear hos t1 t2 hre u0 u1 u2 f0 f1 f2 hch hc1 hslh hbh hb1 hghl e1 hvh2 hbB hgB hk0 hQ4r hQ6r ebh3
   by_cases hy:16777216≤x
   ·have hyd:decide (16777216≤x)=true:=decide_eq_true hy
    rw[hyd] at cA
    rw[if_pos rfl] at cA
    clear hy
    go_wp2_with fail
    refine cA.mono ?_
    rintro e w6 ⟨rfl,V1',V2',h6⟩
    have H6:=lh h6
    have hQ6s:=HQ6.out.kp h6.k (by have:=HNE.out.2.2.1;omega)
    have m67:w6.cell? ⟨q6,7,none⟩=some (.slice (some ⟨bb,oo,none⟩) s.xs.length cx):=hQ6s.cell 7
    have x6:w6.cell? ⟨bb,oo+j,none⟩=some (.int .i64 x):=h6.k.cell HE.out.1 (by have:=HE.out.2;show ¬ B1≤bb;omega)
    clear h6 hQ6s cA x0 v0 v1 v2 a0 a1 m7 m8
    go_wp2_with fail
    go_roundw
    case rel=>exact⟨j+1,V1',V2',rfl,by go_num,by omega,H6.out⟩
    case measure=>simp[intOf];omega
   ·have hyd:decide (16777216≤x)=false:=decide_eq_false hy
    rw[hyd] at cA
    rw[if_neg (by decide)] at cA
    clear hy
    go_wp2_with fail
    refine cA.mono ?_
    rintro e w6 ⟨rfl,V1',V2',h6⟩
    have H6:=lh h6
    have hQ6s:=HQ6.out.kp h6.k (by have:=HNE.out.2.2.1;omega)
    have m67:w6.cell? ⟨q6,7,none⟩=some (.slice (some ⟨bb,oo,none⟩) s.xs.length cx):=hQ6s.cell 7
    have x6:w6.cell? ⟨bb,oo+j,none⟩=some (.int .i64 x):=h6.k.cell HE.out.1 (by have:=HE.out.2;show ¬ B1≤bb;omega)
    clear h6 hQ6s cA x0 v0 v1 v2 a0 a1 m7 m8
    go_wp2_with fail
    go_roundw
    case rel=>exact⟨j+1,V1',V2',rfl,by go_num,by omega,H6.out⟩
    case measure=>simp[intOf];omega
  ·obtain rfl:j=s.xs.length:=by omega
   obtain⟨mz,hmz⟩:∃ mz,mz=ma s.xs.length:=⟨_,rfl⟩
   have HSH:Hid (mz.Sh s.m):=lh (by rw[hmz];exact HMA.out.2.2)
   rw[← hmz] at HOS
   clear hmz hos hk0 hQ4r hQ6r HMA
   have m0:wr.cell? ⟨q6,0,none⟩=some (.int .i64 s.m.old.base):=HQ6r.out.cell 0
   have m1:wr.cell? ⟨q6,1,none⟩=some (.int .i64 s.m.old.limit):=HQ6r.out.cell 1
   have m2:wr.cell? ⟨q6,2,none⟩=some (.slice A1 s.m.old.ws.length c1):=HQ6r.out.cell 2
   have m3:wr.cell? ⟨q6,3,none⟩=some (.int .i64 s.m.yng.base):=HQ6r.out.cell 3
   have m4:wr.cell? ⟨q6,4,none⟩=some (.int .i64 s.m.yng.limit):=HQ6r.out.cell 4
   have m5:wr.cell? ⟨q6,5,none⟩=some (.slice A2 s.m.yng.ws.length c2):=HQ6r.out.cell 5
   have m6:wr.cell? ⟨q6,6,none⟩=some (.slice A s.cs.length c):=HQ6r.out.cell 6
   have m7:wr.cell? ⟨q6,7,none⟩=some (.slice Ax s.xs.length cx):=HQ6r.out.cell 7
   go_upto_region 15 with fail
   have hba:Below wr.heap.size wr (wr.alloc (.cells #[.int .i64 s.m.old.base,.int .i64 s.m.old.limit,.slice A1 s.m.old.ws.length c1,.int .i64 s.m.yng.base,.int .i64 s.m.yng.limit,.slice A2 s.m.yng.ws.length c2] 33)):=(Below.refl _ _).alloc (Nat.le_refl _) _
   have HQS:Hid (Bk (wr.alloc (.cells #[.int .i64 s.m.old.base,.int .i64 s.m.old.limit,.slice A1 s.m.old.ws.length c1,.int .i64 s.m.yng.base,.int .i64 s.m.yng.limit,.slice A2 s.m.yng.ws.length c2] 33)) wr.heap.size 33 #[.int .i64 s.m.old.base,.int .i64 s.m.old.limit,.slice A1 s.m.old.ws.length c1,.int .i64 s.m.yng.base,.int .i64 s.m.yng.limit,.slice A2 s.m.yng.ws.length c2]):=lh (Bk.new _ _ _)
   have HO0:=lh (HOS.out.below hba)
   have HQSB:Hid (B1≤wr.heap.size):=HBR
   clear hba HOS HQ4r HQ6r HBR m0 m1 m2 m3 m4 m5 m6 m7
   generalize wr.alloc (.cells #[.int .i64 s.m.old.base,.int .i64 s.m.old.limit,.slice A1 s.m.old.ws.length c1,.int .i64 s.m.yng.base,.int .i64 s.m.yng.limit,.slice A2 s.m.yng.ws.length c2] 33)=w7 at *
   generalize wr.heap.size=qs at *
   obtain⟨V1z,hV1z⟩:∃ V,V=V1:=⟨_,rfl⟩
   obtain⟨V2z,hV2z⟩:∃ V,V=V2:=⟨_,rfl⟩
   go_wp2_with fail
   go_loopw [5,89] (fun pt i wr=>∃ (a:Int) (mm:Mm),pt=.pointer (some ⟨gt,0,none⟩)∧i=.int .i64 a∧OpS w5 wr B1 g1 g2 gt bt 0 V1 V2 mm []∧((a=0∧mm=mz) ∨ (a=1∧mm=mz.reY s.m 0) ∨ (a=2∧mm=s.m))∧Bk wr qs 33 #[.int .i64 s.m.old.base,.int .i64 s.m.old.limit,.slice A1 s.m.old.ws.length c1,.int .i64 s.m.yng.base,.int .i64 s.m.yng.limit,.slice A2 s.m.yng.ws.length c2]) (fun _ i _=>2 - (intOf i).toNat)
   case atStart=>exact⟨0,mz,rfl,rfl,HO0.out,.inl ⟨rfl,rfl⟩,HQS.out⟩
   case round =>
    clear HO0 HQS hV1z hV2z
    obtain⟨a,mm,rfl,rfl,hos,hm0,hqs⟩:=hrel
    have HOS:=lh hos
    have HQS:=lh hqs
    rcases hm0 with ⟨rfl,hm0⟩ | ⟨rfl,hm0⟩ | ⟨rfl,hm0⟩
    ·obtain rfl:mz=mm:=(hm0).symm
     have b0:wr.cell? ⟨qs,0,none⟩=some (.int .i64 s.m.old.base):=hqs.cell 0
     have b1:wr.cell? ⟨qs,1,none⟩=some (.int .i64 s.m.old.limit):=hqs.cell 1
     have b2:wr.cell? ⟨qs,2,none⟩=some (.slice A1 s.m.old.ws.length c1):=hqs.cell 2
     clear hos hqs
     go_upto_region 17 with fail
     have hbp:Below wr.heap.size wr (wr.alloc (.cells #[.int .i64 s.m.old.base,.int .i64 s.m.old.limit,.slice A1 s.m.old.ws.length c1] 33)):=(Below.refl _ _).alloc (Nat.le_refl _) _
     have HP0:Hid (Bk (wr.alloc (.cells #[.int .i64 s.m.old.base,.int .i64 s.m.old.limit,.slice A1 s.m.old.ws.length c1] 33)) wr.heap.size 33 #[.int .i64 s.m.old.base,.int .i64 s.m.old.limit,.slice A1 s.m.old.ws.length c1]):=lh (Bk.new _ _ _)
     have HO1:=lh (HOS.out.below hbp)
     have HS1:=lh (HQS.out.below hbp HQS.out.lt)
     clear hbp HOS HQS b0 b1 b2
     generalize wr.alloc (.cells #[.int .i64 s.m.old.base,.int .i64 s.m.old.limit,.slice A1 s.m.old.ws.length c1] 33)=w8 at *
     generalize wr.heap.size=qp at *
     go_wp2_with fail
     go_loopw [5,14] (fun pt i wr=>∃ (j:Nat),pt=.pointer (some ⟨gt,0,none⟩)∧i=.int .i64 (j:Int)∧j≤s.m.old.ws.length∧OpS w5 wr B1 g1 g2 gt bt 0 V1 V2 (mz.reO s.m j) []∧Bk wr qs 33 #[.int .i64 s.m.old.base,.int .i64 s.m.old.limit,.slice A1 s.m.old.ws.length c1,.int .i64 s.m.yng.base,.int .i64 s.m.yng.limit,.slice A2 s.m.yng.ws.length c2]∧Bk wr qp 33 #[.int .i64 s.m.old.base,.int .i64 s.m.old.limit,.slice A1 s.m.old.ws.length c1]) (fun _ i _=>s.m.old.ws.length - (intOf i).toNat)
     case atStart=>exact⟨0,rfl,rfl,Nat.zero_le _,HO1.out,HS1.out,HP0.out⟩
     case round =>
      clear HO1 HS1 HP0
      obtain⟨j,rfl,rfl,hj,hos,hqs,hqp⟩:=hrel
      have HOS:=lh hos
      have HQS:=lh hqs
      have HQP:=lh hqp
      by_cases hlt:j < s.m.old.ws.length
      ·have t1:s.m.old.ws[j]?=some s.m.old.ws[j]:=List.getElem?_eq_getElem hlt
       have hstep:=HSH.out.reO_step HIN.out.ok t1
       have hxu:=HRM5.out.o.u s.m.old.ws[j] (List.getElem_mem hlt)
       obtain⟨bb,oo,rfl,hb1,hc1⟩:=HRM5.out.o.sl.get hlt
       have e1:w5.cell? ⟨bb,oo+j,none⟩=some (.int .u64 s.m.old.ws[j]):=hc1 j _ (wds_get t1)
       have hbB:bb < B1:=HLT.out bb oo (.inl rfl)
       generalize s.m.old.ws[j]=x at e1 hstep hxu t1
       have hsb:0≤s.m.old.base∧s.m.old.base≤16777216∧j < 4294967296:=by
        have h1:=HIN.out.ok.ob
        have h2:=HRM5.out.o.lim
        have h3:=HRM5.out.o.l0
        omega
       have hjw:j < c1:=by have:=HRM5.out.o.cap;omega
       have HE1:Hid (bb < wr.heap.size∧wr.cell? ⟨bb,oo+j,none⟩=some (.int .u64 x)):=lh ⟨by have:=hos.k.size;have:=HNE.out.2.2.2;omega,hos.k.cell e1 (by show ¬ B1≤bb;omega)⟩
       have hQ4r:=HQ4.out.kp hos.k (by have:=HNE.out.2.1;omega)
       have HQ4r:=lh hQ4r
       have p2:wr.cell? ⟨qp,2,none⟩=some (.slice (some ⟨bb,oo,none⟩) s.m.old.ws.length c1):=hqp.cell 2
       have HSTEP:=lh hstep
       have HXU:=lh hxu
       obtain⟨nw,hnw⟩:∃ nw,nw=s.m.old.ws.length:=⟨_,rfl⟩
       clear t1 hstep hxu hb1 hc1 e1 hbB hos hqs hqp hQ4r hnw nw
       go_upto_region 20 with fail
       clear p2
       refine wp_region_first 10 (fun i=>([[],[],[1],[],[2,3],[],[5],[],[6,7],[8]]:List (List Nat)).getD i []) (EL [Ent.val (.agg #[.pointer (some ⟨g1,0,none⟩),.pointer (some ⟨g2,0,none⟩)]),Ent.val (.pointer (some ⟨qp,0,none⟩)),Ent.val (.int .i64 s.m.old.base),Ent.val (.int .i64 (j:Int)),Ent.val (.int .i64 (s.m.old.base+(j:Int))),Ent.val (.pointer (some ⟨qp,2,none⟩)),Ent.val (.slice (some ⟨bb,oo,none⟩) s.m.old.ws.length c1),Ent.val (.int .i64 (j:Int)),Ent.val (.pointer (some ⟨bb,oo+j,none⟩)),Ent.val (.int .u64 x)]) rfl (by kernel_rfl) (by kernel_rfl) (by kernel_rfl) (by rfl) ?_ ?_
       ·intro i hi o ho vs w1 hb1 hgr
        rcases (show i=0 ∨ i=1 ∨ i=2 ∨ i=3 ∨ i=4 ∨ i=5 ∨ i=6 ∨ i=7 ∨ i=8 ∨ i=9 by omega) with rfl | rfl | rfl | rfl | rfl | rfl | rfl | rfl | rfl | rfl <;> cases ho
        ·clear hgr
         change Made _ (Adds _ _ _) (Sem.run _ (execOp (Act.eval (frm _ _ _ [])) _) _)
         simp only[frm]
         have hbk:=HQ4r.out.below hb1 HQ4r.out.lt
         have c0:w1.cell? ⟨q4,0,none⟩=some (.pointer (some ⟨g1,0,none⟩)):=hbk.cell 0
         have c1:w1.cell? ⟨q4,1,none⟩=some (.pointer (some ⟨g2,0,none⟩)):=hbk.cell 1
         clear hbk
         go_simp
         exact adds_val rfl
        ·clear hgr
         change Made _ (Adds _ _ _) (Sem.run _ (execOp (Act.eval (frm _ _ _ [])) _) _)
         simp only[frm]
         go_simp
         exact adds_val rfl
        ·have h1:vs 1=_:=hgr 1 (by decide)
         clear hgr
         change Made _ (Adds _ _ _) (Sem.run _ (execOp (Act.eval (Act.put (frm _ _ _ []) (some 101) (vs 1))) _) _)
         simp only[frm,h1]
         have hbk:=HQP.out.below hb1 HQP.out.lt
         have c0:w1.cell? ⟨qp,0,none⟩=some (.int .i64 s.m.old.base):=hbk.cell 0
         clear hbk
         go_simp
         exact adds_val rfl
        ·clear hgr
         change Made _ (Adds _ _ _) (Sem.run _ (execOp (Act.eval (frm _ _ _ [])) _) _)
         simp only[frm]
         go_simp
         exact adds_val rfl
        ·have h2:vs 2=_:=hgr 2 (by decide)
         have h3:vs 3=_:=hgr 3 (by decide)
         clear hgr
         change Made _ (Adds _ _ _) (Sem.run _ (execOp (Act.eval (Act.put (Act.put (frm _ _ _ []) (some 103) (vs 3)) (some 102) (vs 2))) _) _)
         simp only[frm,h2,h3]
         have e6:IntKind.i64.wrap (s.m.old.base+(j:Int))=s.m.old.base+(j:Int):=IntWalk.i64_in _ (by omega)
         go_simp
         exact adds_val rfl
        ·clear hgr
         change Made _ (Adds _ _ _) (Sem.run _ (execOp (Act.eval (frm _ _ _ [])) _) _)
         simp only[frm]
         go_simp
         exact adds_val rfl
        ·have h5:vs 5=_:=hgr 5 (by decide)
         clear hgr
         change Made _ (Adds _ _ _) (Sem.run _ (execOp (Act.eval (Act.put (frm _ _ _ []) (some 105) (vs 5))) _) _)
         simp only[frm,h5]
         have hbk:=HQP.out.below hb1 HQP.out.lt
         have c0:w1.cell? ⟨qp,2,none⟩=some (.slice (some ⟨bb,oo,none⟩) s.m.old.ws.length c1):=hbk.cell 2
         clear hbk
         go_simp
         exact adds_val rfl
        ·clear hgr
         change Made _ (Adds _ _ _) (Sem.run _ (execOp (Act.eval (frm _ _ _ [])) _) _)
         simp only[frm]
         go_simp
         exact adds_val rfl
        ·have h6:vs 6=_:=hgr 6 (by decide)
         have h7:vs 7=_:=hgr 7 (by decide)
         clear hgr
         change Made _ (Adds _ _ _) (Sem.run _ (execOp (Act.eval (Act.put (Act.put (frm _ _ _ []) (some 107) (vs 7)) (some 106) (vs 6))) _) _)
         simp only[frm,h6,h7]
         go_simp
         exact adds_val rfl
        ·have h8:vs 8=_:=hgr 8 (by decide)
         clear hgr
         change Made _ (Adds _ _ _) (Sem.run _ (execOp (Act.eval (Act.put (frm _ _ _ []) (some 108) (vs 8))) _) _)
         simp only[frm,h8]
         have e8:w1.cell? ⟨bb,oo+j,none⟩=some (.int .u64 x):=((bcell hb1).1 _ _ HE1.out.1).trans HE1.out.2
         go_simp
         exact adds_val rfl
       intro vs w1 hb1 hall hap
       have h0:vs 0=_:=(hall 0 (by omega)).1
       have h1:vs 1=_:=(hall 1 (by omega)).1
       have h2:vs 2=_:=(hall 2 (by omega)).1
       have h3:vs 3=_:=(hall 3 (by omega)).1
       have h4:vs 4=_:=(hall 4 (by omega)).1
       have h5:vs 5=_:=(hall 5 (by omega)).1
       have h6:vs 6=_:=(hall 6 (by omega)).1
       have h7:vs 7=_:=(hall 7 (by omega)).1
       have h8:vs 8=_:=(hall 8 (by omega)).1
       have h9:vs 9=_:=(hall 9 (by omega)).1
       clear hall hap
       change wpList _ _ _ [_] (Act.put (Act.put (Act.put (Act.put (Act.put (Act.put (Act.put (Act.put (Act.put (Act.put (frm _ _ _ []) (some 109) (vs 9)) (some 108) (vs 8)) (some 107) (vs 7)) (some 106) (vs 6)) (some 105) (vs 5)) (some 104) (vs 4)) (some 103) (vs 3)) (some 102) (vs 2)) (some 101) (vs 1)) (some 100) (vs 0)) _
       simp only[frm,h0,h1,h2,h3,h4,h5,h6,h7,h8,h9]
       have cS:=fun {w1:World} (hb:Below wr.heap.size wr w1)=>(HOS.out.below hb).store (s.m.old.base+(j:Int)) HXU.out
       have cS1:=cS hb1
       rw[HSTEP.out] at cS1
       unfold memV at cS1
       have HS1:=lh (HQS.out.below hb1 HQS.out.lt)
       have HP1:=lh (HQP.out.below hb1 HQP.out.lt)
       have HOO:=lh (HOS.out.below hb1)
       clear hb1 h0 h1 h2 h3 h4 h5 h6 h7 h8 h9 cS HOS HQS HQP HE1 HQ4r
       go_wp2_with fail
       refine cS1.mono ?_
       rintro e w6 ⟨rfl,h6,hk6⟩
       have H6:=lh h6
       have HS6:=lh (HS1.out.kp hk6 fun e=>e.elim (HOO.out.mr.o.own_ne HS1.out (by decide)) (HOO.out.mr.y.own_ne HS1.out (by decide)))
       have HP6:=lh (HP1.out.kp hk6 fun e=>e.elim (HOO.out.mr.o.own_ne HP1.out (by decide)) (HOO.out.mr.y.own_ne HP1.out (by decide)))
       clear cS1 h6 hk6 HS1 HP1 HOO
       go_wp2_with fail
       simp only[normalTo]
       refine phase2_all 11 12 (fun i=>([[],[],[1],[],[2,3],[],[5],[],[6,7],[8],[0,4,9],[10]]:List (List Nat)).getD i []) (EL [Ent.val (.agg #[.pointer (some ⟨g1,0,none⟩),.pointer (some ⟨g2,0,none⟩)]),Ent.val (.pointer (some ⟨qp,0,none⟩)),Ent.val (.int .i64 s.m.old.base),Ent.val (.int .i64 (j:Int)),Ent.val (.int .i64 (s.m.old.base+(j:Int))),Ent.val (.pointer (some ⟨qp,2,none⟩)),Ent.val (.slice (some ⟨bb,oo,none⟩) s.m.old.ws.length c1),Ent.val (.int .i64 (j:Int)),Ent.val (.pointer (some ⟨bb,oo+j,none⟩)),Ent.val (.int .u64 x),Ent.val (.int .i64 0),Ent.val (.bool false)]) (by kernel_rfl) rfl (by omega) (by kernel_rfl) (by kernel_rfl) (by rfl) ?_ ?_ ?_
       ·intro i hi
        rcases (show i=0 ∨ i=1 ∨ i=2 ∨ i=3 ∨ i=4 ∨ i=5 ∨ i=6 ∨ i=7 ∨ i=8 ∨ i=9 ∨ i=10 by omega) with rfl | rfl | rfl | rfl | rfl | rfl | rfl | rfl | rfl | rfl | rfl <;> exact⟨rfl,fun _=>rfl⟩
       ·intro i hmi hi o ho vs w1 hb1 hgr
        rcases (show i=11 by omega) with rfl <;> cases ho
        ·have h10:vs 10=_:=hgr 10 (by decide)
         clear hgr
         change Made _ (Adds _ _ _) (Sem.run _ (execOp (Act.eval (Act.put (frm _ _ _ []) (some 110) (vs 10))) _) _)
         simp only[frm,h10]
         go_simp
         exact adds_val rfl
       intro vs w1 hb1 hall hap
       have h0:vs 0=_:=(hall 0 (by omega)).1
       have h1:vs 1=_:=(hall 1 (by omega)).1
       have h2:vs 2=_:=(hall 2 (by omega)).1
       have h3:vs 3=_:=(hall 3 (by omega)).1
       have h4:vs 4=_:=(hall 4 (by omega)).1
       have h5:vs 5=_:=(hall 5 (by omega)).1
       have h6:vs 6=_:=(hall 6 (by omega)).1
       have h7:vs 7=_:=(hall 7 (by omega)).1
       have h8:vs 8=_:=(hall 8 (by omega)).1
       have h9:vs 9=_:=(hall 9 (by omega)).1
       have h10:vs 10=_:=(hall 10 (by omega)).1
       have h11:vs 11=_:=(hall 11 (by omega)).1
       clear hall hap
       change wpList _ _ _ [] (Act.put (Act.put (Act.put (Act.put (Act.put (Act.put (Act.put (Act.put (Act.put (Act.put (Act.put (Act.put (frm _ _ _ []) (some 111) (vs 11)) (some 110) (vs 10)) (some 109) (vs 9)) (some 108) (vs 8)) (some 107) (vs 7)) (some 106) (vs 6)) (some 105) (vs 5)) (some 104) (vs 4)) (some 103) (vs 3)) (some 102) (vs 2)) (some 101) (vs 1)) (some 100) (vs 0)) _
       simp only[frm,h0,h1,h2,h3,h4,h5,h6,h7,h8,h9,h10,h11]
       have HB1:=lh hb1
       clear hb1 h0 h1 h2 h3 h4 h5 h6 h7 h8 h9 h10 h11
       go_simp
       change Exit.then _ _ _ _ _
       go_wp2_with fail
       go_roundw
       case rel=>exact⟨j+1,rfl,by go_num,by omega,H6.out.below HB1.out,HS6.out.below HB1.out HS6.out.lt,HP6.out.below HB1.out HP6.out.lt⟩
       case measure=>simp[intOf];omega
      ·obtain rfl:j=s.m.old.ws.length:=by omega
       have p2:wr.cell? ⟨qp,2,none⟩=some (.slice A1 s.m.old.ws.length c1):=hqp.cell 2
       clear hos hqs hqp
       go_wp2_with fail
       go_roundw
       case rel=>exact⟨1,_,rfl,rfl,HOS.out,.inr (.inl ⟨rfl,HSH.out.reO_end⟩),HQS.out⟩
       case measure=>simp[intOf]
    ·obtain rfl:mz.reY s.m 0=mm:=(hm0).symm
     have b3:wr.cell? ⟨qs,3,none⟩=some (.int .i64 s.m.yng.base):=hqs.cell 3
     have b4:wr.cell? ⟨qs,4,none⟩=some (.int .i64 s.m.yng.limit):=hqs.cell 4
     have b5:wr.cell? ⟨qs,5,none⟩=some (.slice A2 s.m.yng.ws.length c2):=hqs.cell 5
     clear hos hqs
     go_upto_region 17 with fail
     have hbp:Below wr.heap.size wr (wr.alloc (.cells #[.int .i64 s.m.yng.base,.int .i64 s.m.yng.limit,.slice A2 s.m.yng.ws.length c2] 33)):=(Below.refl _ _).alloc (Nat.le_refl _) _
     have HP0:Hid (Bk (wr.alloc (.cells #[.int .i64 s.m.yng.base,.int .i64 s.m.yng.limit,.slice A2 s.m.yng.ws.length c2] 33)) wr.heap.size 33 #[.int .i64 s.m.yng.base,.int .i64 s.m.yng.limit,.slice A2 s.m.yng.ws.length c2]):=lh (Bk.new _ _ _)
     have HO1:=lh (HOS.out.below hbp)
     have HS1:=lh (HQS.out.below hbp HQS.out.lt)
     clear hbp HOS HQS b3 b4 b5
     generalize wr.alloc (.cells #[.int .i64 s.m.yng.base,.int .i64 s.m.yng.limit,.slice A2 s.m.yng.ws.length c2] 33)=w8 at *
     generalize wr.heap.size=qp at *
     go_wp2_with fail
     go_loopw [5,14] (fun pt i wr=>∃ (j:Nat),pt=.pointer (some ⟨gt,0,none⟩)∧i=.int .i64 (j:Int)∧j≤s.m.yng.ws.length∧OpS w5 wr B1 g1 g2 gt bt 0 V1 V2 (mz.reY s.m j) []∧Bk wr qs 33 #[.int .i64 s.m.old.base,.int .i64 s.m.old.limit,.slice A1 s.m.old.ws.length c1,.int .i64 s.m.yng.base,.int .i64 s.m.yng.limit,.slice A2 s.m.yng.ws.length c2]∧Bk wr qp 33 #[.int .i64 s.m.yng.base,.int .i64 s.m.yng.limit,.slice A2 s.m.yng.ws.length c2]) (fun _ i _=>s.m.yng.ws.length - (intOf i).toNat)
     case atStart=>exact⟨0,rfl,rfl,Nat.zero_le _,HO1.out,HS1.out,HP0.out⟩
     case round =>
      clear HO1 HS1 HP0
      obtain⟨j,rfl,rfl,hj,hos,hqs,hqp⟩:=hrel
      have HOS:=lh hos
      have HQS:=lh hqs
      have HQP:=lh hqp
      by_cases hlt:j < s.m.yng.ws.length
      ·have t1:s.m.yng.ws[j]?=some s.m.yng.ws[j]:=List.getElem?_eq_getElem hlt
       have hstep:=HSH.out.reY_step HIN.out.ok t1
       have hxu:=HRM5.out.y.u s.m.yng.ws[j] (List.getElem_mem hlt)
       obtain⟨bb,oo,rfl,hb1,hc1⟩:=HRM5.out.y.sl.get hlt
       have e1:w5.cell? ⟨bb,oo+j,none⟩=some (.int .u64 s.m.yng.ws[j]):=hc1 j _ (wds_get t1)
       have hbB:bb < B1:=HLT.out bb oo (.inr (.inl rfl))
       generalize s.m.yng.ws[j]=x at e1 hstep hxu t1
       have hsb:0≤s.m.yng.base∧s.m.yng.base≤16777216∧j < 4294967296:=by
        have h1:=HIN.out.ok.yb
        have h2:=HRM5.out.y.lim
        have h3:=HRM5.out.y.l0
        omega
       have hjw:j < c2:=by have:=HRM5.out.y.cap;omega
       have HE1:Hid (bb < wr.heap.size∧wr.cell? ⟨bb,oo+j,none⟩=some (.int .u64 x)):=lh ⟨by have:=hos.k.size;have:=HNE.out.2.2.2;omega,hos.k.cell e1 (by show ¬ B1≤bb;omega)⟩
       have hQ4r:=HQ4.out.kp hos.k (by have:=HNE.out.2.1;omega)
       have HQ4r:=lh hQ4r
       have p2:wr.cell? ⟨qp,2,none⟩=some (.slice (some ⟨bb,oo,none⟩) s.m.yng.ws.length c2):=hqp.cell 2
       have HSTEP:=lh hstep
       have HXU:=lh hxu
       obtain⟨nw,hnw⟩:∃ nw,nw=s.m.yng.ws.length:=⟨_,rfl⟩
       clear t1 hstep hxu hb1 hc1 e1 hbB hos hqs hqp hQ4r hnw nw
       go_upto_region 20 with fail
       clear p2
       refine wp_region_first 10 (fun i=>([[],[],[1],[],[2,3],[],[5],[],[6,7],[8]]:List (List Nat)).getD i []) (EL [Ent.val (.agg #[.pointer (some ⟨g1,0,none⟩),.pointer (some ⟨g2,0,none⟩)]),Ent.val (.pointer (some ⟨qp,0,none⟩)),Ent.val (.int .i64 s.m.yng.base),Ent.val (.int .i64 (j:Int)),Ent.val (.int .i64 (s.m.yng.base+(j:Int))),Ent.val (.pointer (some ⟨qp,2,none⟩)),Ent.val (.slice (some ⟨bb,oo,none⟩) s.m.yng.ws.length c2),Ent.val (.int .i64 (j:Int)),Ent.val (.pointer (some ⟨bb,oo+j,none⟩)),Ent.val (.int .u64 x)]) rfl (by kernel_rfl) (by kernel_rfl) (by kernel_rfl) (by rfl) ?_ ?_
       ·intro i hi o ho vs w1 hb1 hgr
        rcases (show i=0 ∨ i=1 ∨ i=2 ∨ i=3 ∨ i=4 ∨ i=5 ∨ i=6 ∨ i=7 ∨ i=8 ∨ i=9 by omega) with rfl | rfl | rfl | rfl | rfl | rfl | rfl | rfl | rfl | rfl <;> cases ho
        ·clear hgr
         change Made _ (Adds _ _ _) (Sem.run _ (execOp (Act.eval (frm _ _ _ [])) _) _)
         simp only[frm]
         have hbk:=HQ4r.out.below hb1 HQ4r.out.lt
         have c0:w1.cell? ⟨q4,0,none⟩=some (.pointer (some ⟨g1,0,none⟩)):=hbk.cell 0
         have c1:w1.cell? ⟨q4,1,none⟩=some (.pointer (some ⟨g2,0,none⟩)):=hbk.cell 1
         clear hbk
         go_simp
         exact adds_val rfl
        ·clear hgr
         change Made _ (Adds _ _ _) (Sem.run _ (execOp (Act.eval (frm _ _ _ [])) _) _)
         simp only[frm]
         go_simp
         exact adds_val rfl
        ·have h1:vs 1=_:=hgr 1 (by decide)
         clear hgr
         change Made _ (Adds _ _ _) (Sem.run _ (execOp (Act.eval (Act.put (frm _ _ _ []) (some 101) (vs 1))) _) _)
         simp only[frm,h1]
         have hbk:=HQP.out.below hb1 HQP.out.lt
         have c0:w1.cell? ⟨qp,0,none⟩=some (.int .i64 s.m.yng.base):=hbk.cell 0
         clear hbk
         go_simp
         exact adds_val rfl
        ·clear hgr
         change Made _ (Adds _ _ _) (Sem.run _ (execOp (Act.eval (frm _ _ _ [])) _) _)
         simp only[frm]
         go_simp
         exact adds_val rfl
        ·have h2:vs 2=_:=hgr 2 (by decide)
         have h3:vs 3=_:=hgr 3 (by decide)
         clear hgr
         change Made _ (Adds _ _ _) (Sem.run _ (execOp (Act.eval (Act.put (Act.put (frm _ _ _ []) (some 103) (vs 3)) (some 102) (vs 2))) _) _)
         simp only[frm,h2,h3]
         have e6:IntKind.i64.wrap (s.m.yng.base+(j:Int))=s.m.yng.base+(j:Int):=IntWalk.i64_in _ (by omega)
         go_simp
         exact adds_val rfl
        ·clear hgr
         change Made _ (Adds _ _ _) (Sem.run _ (execOp (Act.eval (frm _ _ _ [])) _) _)
         simp only[frm]
         go_simp
         exact adds_val rfl
        ·have h5:vs 5=_:=hgr 5 (by decide)
         clear hgr
         change Made _ (Adds _ _ _) (Sem.run _ (execOp (Act.eval (Act.put (frm _ _ _ []) (some 105) (vs 5))) _) _)
         simp only[frm,h5]
         have hbk:=HQP.out.below hb1 HQP.out.lt
         have c0:w1.cell? ⟨qp,2,none⟩=some (.slice (some ⟨bb,oo,none⟩) s.m.yng.ws.length c2):=hbk.cell 2
         clear hbk
         go_simp
         exact adds_val rfl
        ·clear hgr
         change Made _ (Adds _ _ _) (Sem.run _ (execOp (Act.eval (frm _ _ _ [])) _) _)
         simp only[frm]
         go_simp
         exact adds_val rfl
        ·have h6:vs 6=_:=hgr 6 (by decide)
         have h7:vs 7=_:=hgr 7 (by decide)
         clear hgr
         change Made _ (Adds _ _ _) (Sem.run _ (execOp (Act.eval (Act.put (Act.put (frm _ _ _ []) (some 107) (vs 7)) (some 106) (vs 6))) _) _)
         simp only[frm,h6,h7]
         go_simp
         exact adds_val rfl
        ·have h8:vs 8=_:=hgr 8 (by decide)
         clear hgr
         change Made _ (Adds _ _ _) (Sem.run _ (execOp (Act.eval (Act.put (frm _ _ _ []) (some 108) (vs 8))) _) _)
         simp only[frm,h8]
         have e8:w1.cell? ⟨bb,oo+j,none⟩=some (.int .u64 x):=((bcell hb1).1 _ _ HE1.out.1).trans HE1.out.2
         go_simp
         exact adds_val rfl
       intro vs w1 hb1 hall hap
       have h0:vs 0=_:=(hall 0 (by omega)).1
       have h1:vs 1=_:=(hall 1 (by omega)).1
       have h2:vs 2=_:=(hall 2 (by omega)).1
       have h3:vs 3=_:=(hall 3 (by omega)).1
       have h4:vs 4=_:=(hall 4 (by omega)).1
       have h5:vs 5=_:=(hall 5 (by omega)).1
       have h6:vs 6=_:=(hall 6 (by omega)).1
       have h7:vs 7=_:=(hall 7 (by omega)).1
       have h8:vs 8=_:=(hall 8 (by omega)).1
       have h9:vs 9=_:=(hall 9 (by omega)).1
       clear hall hap
       change wpList _ _ _ [_] (Act.put (Act.put (Act.put (Act.put (Act.put (Act.put (Act.put (Act.put (Act.put (Act.put (frm _ _ _ []) (some 109) (vs 9)) (some 108) (vs 8)) (some 107) (vs 7)) (some 106) (vs 6)) (some 105) (vs 5)) (some 104) (vs 4)) (some 103) (vs 3)) (some 102) (vs 2)) (some 101) (vs 1)) (some 100) (vs 0)) _
       simp only[frm,h0,h1,h2,h3,h4,h5,h6,h7,h8,h9]
       have cS:=fun {w1:World} (hb:Below wr.heap.size wr w1)=>(HOS.out.below hb).store (s.m.yng.base+(j:Int)) HXU.out
       have cS1:=cS hb1
       rw[HSTEP.out] at cS1
       unfold memV at cS1
       have HS1:=lh (HQS.out.below hb1 HQS.out.lt)
       have HP1:=lh (HQP.out.below hb1 HQP.out.lt)
       have HOO:=lh (HOS.out.below hb1)
       clear hb1 h0 h1 h2 h3 h4 h5 h6 h7 h8 h9 cS HOS HQS HQP HE1 HQ4r
       go_wp2_with fail
       refine cS1.mono ?_
       rintro e w6 ⟨rfl,h6,hk6⟩
       have H6:=lh h6
       have HS6:=lh (HS1.out.kp hk6 fun e=>e.elim (HOO.out.mr.o.own_ne HS1.out (by decide)) (HOO.out.mr.y.own_ne HS1.out (by decide)))
       have HP6:=lh (HP1.out.kp hk6 fun e=>e.elim (HOO.out.mr.o.own_ne HP1.out (by decide)) (HOO.out.mr.y.own_ne HP1.out (by decide)))
       clear cS1 h6 hk6 HS1 HP1 HOO
       go_wp2_with fail
       simp only[normalTo]
       refine phase2_all 11 12 (fun i=>([[],[],[1],[],[2,3],[],[5],[],[6,7],[8],[0,4,9],[10]]:List (List Nat)).getD i []) (EL [Ent.val (.agg #[.pointer (some ⟨g1,0,none⟩),.pointer (some ⟨g2,0,none⟩)]),Ent.val (.pointer (some ⟨qp,0,none⟩)),Ent.val (.int .i64 s.m.yng.base),Ent.val (.int .i64 (j:Int)),Ent.val (.int .i64 (s.m.yng.base+(j:Int))),Ent.val (.pointer (some ⟨qp,2,none⟩)),Ent.val (.slice (some ⟨bb,oo,none⟩) s.m.yng.ws.length c2),Ent.val (.int .i64 (j:Int)),Ent.val (.pointer (some ⟨bb,oo+j,none⟩)),Ent.val (.int .u64 x),Ent.val (.int .i64 0),Ent.val (.bool false)]) (by kernel_rfl) rfl (by omega) (by kernel_rfl) (by kernel_rfl) (by rfl) ?_ ?_ ?_
       ·intro i hi
        rcases (show i=0 ∨ i=1 ∨ i=2 ∨ i=3 ∨ i=4 ∨ i=5 ∨ i=6 ∨ i=7 ∨ i=8 ∨ i=9 ∨ i=10 by omega) with rfl | rfl | rfl | rfl | rfl | rfl | rfl | rfl | rfl | rfl | rfl <;> exact⟨rfl,fun _=>rfl⟩
       ·intro i hmi hi o ho vs w1 hb1 hgr
        rcases (show i=11 by omega) with rfl <;> cases ho
        ·have h10:vs 10=_:=hgr 10 (by decide)
         clear hgr
         change Made _ (Adds _ _ _) (Sem.run _ (execOp (Act.eval (Act.put (frm _ _ _ []) (some 110) (vs 10))) _) _)
         simp only[frm,h10]
         go_simp
         exact adds_val rfl
       intro vs w1 hb1 hall hap
       have h0:vs 0=_:=(hall 0 (by omega)).1
       have h1:vs 1=_:=(hall 1 (by omega)).1
       have h2:vs 2=_:=(hall 2 (by omega)).1
       have h3:vs 3=_:=(hall 3 (by omega)).1
       have h4:vs 4=_:=(hall 4 (by omega)).1
       have h5:vs 5=_:=(hall 5 (by omega)).1
       have h6:vs 6=_:=(hall 6 (by omega)).1
       have h7:vs 7=_:=(hall 7 (by omega)).1
       have h8:vs 8=_:=(hall 8 (by omega)).1
       have h9:vs 9=_:=(hall 9 (by omega)).1
       have h10:vs 10=_:=(hall 10 (by omega)).1
       have h11:vs 11=_:=(hall 11 (by omega)).1
       clear hall hap
       change wpList _ _ _ [] (Act.put (Act.put (Act.put (Act.put (Act.put (Act.put (Act.put (Act.put (Act.put (Act.put (Act.put (Act.put (frm _ _ _ []) (some 111) (vs 11)) (some 110) (vs 10)) (some 109) (vs 9)) (some 108) (vs 8)) (some 107) (vs 7)) (some 106) (vs 6)) (some 105) (vs 5)) (some 104) (vs 4)) (some 103) (vs 3)) (some 102) (vs 2)) (some 101) (vs 1)) (some 100) (vs 0)) _
       simp only[frm,h0,h1,h2,h3,h4,h5,h6,h7,h8,h9,h10,h11]
       have HB1:=lh hb1
       clear hb1 h0 h1 h2 h3 h4 h5 h6 h7 h8 h9 h10 h11
       go_simp
       change Exit.then _ _ _ _ _
       go_wp2_with fail
       go_roundw
       case rel=>exact⟨j+1,rfl,by go_num,by omega,H6.out.below HB1.out,HS6.out.below HB1.out HS6.out.lt,HP6.out.below HB1.out HP6.out.lt⟩
       case measure=>simp[intOf];omega
      ·obtain rfl:j=s.m.yng.ws.length:=by omega
       have p2:wr.cell? ⟨qp,2,none⟩=some (.slice A2 s.m.yng.ws.length c2):=hqp.cell 2
       clear hos hqs hqp
       go_wp2_with fail
       go_roundw
       case rel=>exact⟨2,_,rfl,rfl,HOS.out,.inr (.inr ⟨rfl,HSH.out.reY_end⟩),HQS.out⟩
       case measure=>simp[intOf]
    ·obtain rfl:s.m=mm:=hm0.symm
     clear hqs hos HQS
     go_wp2_with fail
     have HO4:=HOS
     clear HOS hm0
     go_loopw [5,15] (fun pt i wr=>∃ (j:Nat),pt=.pointer (some ⟨gt,0,none⟩)∧i=.int .i64 (j:Int)∧j≤s.cs.length∧OpS w5 wr B1 g1 g2 gt bt j V1 V2 s.m (s.cs.take j)) (fun _ i _=>s.cs.length - (intOf i).toNat)
     case atStart=>exact⟨0,rfl,rfl,Nat.zero_le _,HO4.out⟩
     case round =>
      clear HO4
      obtain⟨j,rfl,rfl,hj,hos⟩:=hrel
      have HOS:=lh hos
      have hQ6r:=HQ6.out.kp hos.k (by have:=HNE.out.2.2.1;omega)
      by_cases hlt:j < s.cs.length
      ·have t1:s.cs[j]?=some s.cs[j]:=List.getElem?_eq_getElem hlt
       have hag:=HIN.out.cs.again t1
       have hrg:=HIN.out.cs.rg s.cs[j] (List.getElem_mem hlt)
       obtain⟨bb,oo,rfl,hb1,hc1⟩:=HRC5.out.s.sl.get hlt
       have e1:w5.cell? ⟨bb,oo+j,none⟩=some (.int .i64 s.cs[j]):=hc1 j _ (ints_get t1)
       have hbB:bb < B1:=HLT.out bb oo (.inr (.inr (.inl rfl)))
       generalize s.cs[j]=x at e1 hag hrg t1
       have x0:wr.cell? ⟨bb,oo+j,none⟩=some (.int .i64 x):=hos.k.cell e1 (by show ¬ B1≤bb;omega)
       have hjc:j < c:=by have:=HRC5.out.s.cap;omega
       have e6:IntKind.i64.wrap (16*x)=16*x:=IntWalk.i64_in _ (by omega)
       have m6:wr.cell? ⟨q6,6,none⟩=some (.slice (some ⟨bb,oo,none⟩) s.cs.length c):=hQ6r.cell 6
       have cM:=HOS.out.mark (by have:=HXL.out.2;omega) (16*x)
       rw[hag] at cM
       have hcl:s.cs.length≤1000:=HXL.out.2
       clear t1 hag hb1 hc1 e1 hbB hos hQ6r hrg
       go_wp2_with fail
       refine cM.mono ?_
       rintro e w6 ⟨rfl,h6⟩
       have H6:=lh h6
       clear h6 cM x0 m6 e6
       go_wp2_with fail
       go_roundw
       case rel=>exact⟨j+1,rfl,by go_num,by omega,H6.out⟩
       case measure=>simp[intOf];omega
      ·obtain rfl:j=s.cs.length:=by omega
       rw[List.take_of_length_le (Nat.le_refl _)] at hos
       have H9:=lh hos
       have hQ4r:=HQ4.out.kp hos.k (by have:=HNE.out.2.1;omega)
       have H4:=lh hQ4r
       have H6:=lh hQ6r
       have m6:wr.cell? ⟨q6,6,none⟩=some (.slice A s.cs.length c):=hQ6r.cell 6
       clear hos HOS hQ4r hQ6r
       go_upto_region 28 with fail
       have d0:wr.cell? ⟨q4,0,none⟩=some (.pointer (some ⟨g1,0,none⟩)):=H4.out.cell 0
       have df0:wr.frozen? ⟨q4,0,none⟩=false:=H4.out.free 0
       have d1:wr.cell? ⟨q4,1,none⟩=some (.pointer (some ⟨g2,0,none⟩)):=H4.out.cell 1
       have df1:wr.frozen? ⟨q4,1,none⟩=false:=H4.out.free 1
       have f0:wr.cell? ⟨q6,0,none⟩=some (.int .i64 s.m.old.base):=H6.out.cell 0
       have ff0:wr.frozen? ⟨q6,0,none⟩=false:=H6.out.free 0
       have f1:wr.cell? ⟨q6,1,none⟩=some (.int .i64 s.m.old.limit):=H6.out.cell 1
       have ff1:wr.frozen? ⟨q6,1,none⟩=false:=H6.out.free 1
       have f2:wr.cell? ⟨q6,2,none⟩=some (.slice A1 s.m.old.ws.length c1):=H6.out.cell 2
       have ff2:wr.frozen? ⟨q6,2,none⟩=false:=H6.out.free 2
       have f3:wr.cell? ⟨q6,3,none⟩=some (.int .i64 s.m.yng.base):=H6.out.cell 3
       have ff3:wr.frozen? ⟨q6,3,none⟩=false:=H6.out.free 3
       have f4:wr.cell? ⟨q6,4,none⟩=some (.int .i64 s.m.yng.limit):=H6.out.cell 4
       have ff4:wr.frozen? ⟨q6,4,none⟩=false:=H6.out.free 4
       have f5:wr.cell? ⟨q6,5,none⟩=some (.slice A2 s.m.yng.ws.length c2):=H6.out.cell 5
       have ff5:wr.frozen? ⟨q6,5,none⟩=false:=H6.out.free 5
       have f6:wr.cell? ⟨q6,6,none⟩=some (.slice A s.cs.length c):=H6.out.cell 6
       have ff6:wr.frozen? ⟨q6,6,none⟩=false:=H6.out.free 6
       have f7:wr.cell? ⟨q6,7,none⟩=some (.slice Ax s.xs.length cx):=H6.out.cell 7
       have ff7:wr.frozen? ⟨q6,7,none⟩=false:=H6.out.free 7
       have f8:wr.cell? ⟨q6,8,none⟩=some (.slice Ah s.hs.length ch):=H6.out.cell 8
       have ff8:wr.frozen? ⟨q6,8,none⟩=false:=H6.out.free 8
       have hne:q4≠q6:=HNQ.out.2.2
       have hne2:q6≠q4:=Ne.symm hne
       clear m6
       go_region
       have HK:=lh (st11_kp (w:=wr) (p:=q4) (q:=q6) (.pointer (some ⟨g1,0,none⟩)) (.pointer (some ⟨g2,0,none⟩)) (.int .i64 s.m.old.base) (.int .i64 s.m.old.limit) (.slice A1 s.m.old.ws.length c1) (.int .i64 s.m.yng.base) (.int .i64 s.m.yng.limit) (.slice A2 s.m.yng.ws.length c2) (.slice A s.cs.length c) (.slice Ax s.xs.length cx) (.slice Ah s.hs.length ch))
       have hB2:=st11_p (q:=q6) (.pointer (some ⟨g1,0,none⟩)) (.pointer (some ⟨g2,0,none⟩)) (.int .i64 s.m.old.base) (.int .i64 s.m.old.limit) (.slice A1 s.m.old.ws.length c1) (.int .i64 s.m.yng.base) (.int .i64 s.m.yng.limit) (.slice A2 s.m.yng.ws.length c2) (.slice A s.cs.length c) (.slice Ax s.xs.length cx) (.slice Ah s.hs.length ch) H4.out HNQ.out.2.2
       have hB3:=st11_q (p:=q4) (.pointer (some ⟨g1,0,none⟩)) (.pointer (some ⟨g2,0,none⟩)) (.int .i64 s.m.old.base) (.int .i64 s.m.old.limit) (.slice A1 s.m.old.ws.length c1) (.int .i64 s.m.yng.base) (.int .i64 s.m.yng.limit) (.slice A2 s.m.yng.ws.length c2) (.slice A s.cs.length c) (.slice Ax s.xs.length cx) (.slice Ah s.hs.length ch) H6.out (Ne.symm HNQ.out.2.2)
       generalize (((((((((((wr.setCell ⟨q4,0,none⟩ (.pointer (some ⟨g1,0,none⟩))).setCell ⟨q4,1,none⟩ (.pointer (some ⟨g2,0,none⟩))).setCell ⟨q6,0,none⟩ (.int .i64 s.m.old.base)).setCell ⟨q6,1,none⟩ (.int .i64 s.m.old.limit)).setCell ⟨q6,2,none⟩ (.slice A1 s.m.old.ws.length c1)).setCell ⟨q6,3,none⟩ (.int .i64 s.m.yng.base)).setCell ⟨q6,4,none⟩ (.int .i64 s.m.yng.limit)).setCell ⟨q6,5,none⟩ (.slice A2 s.m.yng.ws.length c2)).setCell ⟨q6,6,none⟩ (.slice A s.cs.length c)).setCell ⟨q6,7,none⟩ (.slice Ax s.xs.length cx)).setCell ⟨q6,8,none⟩ (.slice Ah s.hs.length ch)).drew=w3 at *
       clear hne hne2 d0 df0 d1 df1 f0 ff0 f1 ff1 f2 ff2 f3 ff3 f4 ff4 f5 ff5 f6 ff6 f7 ff7 f8 ff8
       have d0:w3.cell? ⟨q4,0,none⟩=some (.pointer (some ⟨g1,0,none⟩)):=hB2.cell 0
       have d1:w3.cell? ⟨q4,1,none⟩=some (.pointer (some ⟨g2,0,none⟩)):=hB2.cell 1
       have f0:w3.cell? ⟨q6,0,none⟩=some (.int .i64 s.m.old.base):=hB3.cell 0
       have f1:w3.cell? ⟨q6,1,none⟩=some (.int .i64 s.m.old.limit):=hB3.cell 1
       have f2:w3.cell? ⟨q6,2,none⟩=some (.slice A1 s.m.old.ws.length c1):=hB3.cell 2
       have f3:w3.cell? ⟨q6,3,none⟩=some (.int .i64 s.m.yng.base):=hB3.cell 3
       have f4:w3.cell? ⟨q6,4,none⟩=some (.int .i64 s.m.yng.limit):=hB3.cell 4
       have f5:w3.cell? ⟨q6,5,none⟩=some (.slice A2 s.m.yng.ws.length c2):=hB3.cell 5
       have f6:w3.cell? ⟨q6,6,none⟩=some (.slice A s.cs.length c):=hB3.cell 6
       have f7:w3.cell? ⟨q6,7,none⟩=some (.slice Ax s.xs.length cx):=hB3.cell 7
       have f8:w3.cell? ⟨q6,8,none⟩=some (.slice Ah s.hs.length ch):=hB3.cell 8
       clear hB2 hB3 hlt hj
       go_simp
       rename_i hKK
       refine hKK _ _ ?_
       clear hKK
       go_wp2_with fail
       refine bodyPost_ret (v:=.tuple #[.agg #[.pointer (some ⟨g1,0,none⟩),.pointer (some ⟨g2,0,none⟩)],.pointer (some ⟨gt,0,none⟩),.agg #[.int .i64 s.m.old.base,.int .i64 s.m.old.limit,.slice A1 s.m.old.ws.length c1,.int .i64 s.m.yng.base,.int .i64 s.m.yng.limit,.slice A2 s.m.yng.ws.length c2,.slice A s.cs.length c,.slice Ax s.xs.length cx,.slice Ah s.hs.length ch],.bool true]) (by simp[results,Tryz.results12,go_sem,d0,d1,f0,f1,f2,f3,f4,f5,f6,f7,f8]) rfl ?_
       have hK:=HK.out
       rw[← HSE.out]
       have hk9:=H9.out.k
       have hneq:∀ k,(k=q4 ∨ k=q6)→k < B1∧B1≤wr.heap.size:=fun k e=>by
        have h1:=HNE.out.2.1
        have h2:=HNE.out.2.2.1
        have h3:=HNE.out.2.2.2
        have h4:=hk9.size
        rcases e with e | e <;> omega
       obtain⟨hmr,hcr⟩:=H9.out.kp hK hneq (Kp.refl _ _)
       have hA:∀ b o,A1=some ⟨b,o,none⟩ ∨ A2=some ⟨b,o,none⟩ ∨ A=some ⟨b,o,none⟩→¬ B1≤b∧¬ (b=q4 ∨ b=q6):=fun b o e=>by
        have h1:=HLT.out b o (by rcases e with e | e | e;exact .inl e;exact .inr (.inl e);exact .inr (.inr (.inl e)))
        have h2:=HNA.out b o e
        exact⟨by omega,fun h=>h.elim h2.2 h2.1⟩
       refine⟨⟨g1,g2,V1,V2,gt,bt,s.cs.length,A1,c1,A2,c2,A,c,Ax,cx,Ah,ch,B1,rfl,HNE.out.1,Nat.le_trans (hneq q4 (.inl rfl)).2 hK.size,hmr,hcr,Nat.le_refl _,(HRM5.out.kp hk9 fun b o e=>(hA b o (e.imp id .inl)).1).kp hK (fun b o e=>(hA b o (e.imp id .inl)).2),(HRC5.out.kp hk9 fun b o e=>(hA b o (.inr (.inr e))).1).kp hK (fun b o e=>(hA b o (.inr (.inr e))).2),?_,?_,HLT.out,?_⟩,HIN.out⟩
       ·have h1:=own_kp HOX5.out hk9 fun k hk e=>by
         have:=HLT.out k 0 (.inr (.inr (.inr (.inl (own_addr HOX5.out hk)))))
         omega
        exact own_kp h1 hK fun k hk e=>by
         rcases e with e | e
         ·exact ownRow_bk HOX5.out HQ4.out (by decide) (e ▸ hk)
         ·exact ownRow_bk HOX5.out HQ6.out (by decide) (e ▸ hk)
       ·have h1:=own_kp HOH5.out hk9 fun k hk e=>by
         have:=HLT.out k 0 (.inr (.inr (.inr (.inr (own_addr HOH5.out hk)))))
         omega
        exact own_kp h1 hK fun k hk e=>by
         rcases e with e | e
         ·exact ownRow_bk HOH5.out HQ4.out (by decide) (e ▸ hk)
         ·exact ownRow_bk HOH5.out HQ6.out (by decide) (e ▸ hk)
       ·have hb1:=hk9.toBelow HB5.out HB5.out.size fun k e=>Nat.le_trans HNE.out.1 e
        exact hK.toBelow hb1 hb1.size fun k e=>by
         rcases e with e | e
         ·rw[e];exact HNQ.out.1
         ·rw[e];exact HNQ.out.2.1
end
end
end Go.Proofs.YtaijmgkjbbiboaaGreat
