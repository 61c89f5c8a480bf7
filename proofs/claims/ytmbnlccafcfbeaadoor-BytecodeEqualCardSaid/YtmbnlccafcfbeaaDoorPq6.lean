/- Parts of the proof: Wire4. -/
import Derived.Test.YtmbnlccafcfbeaaDoorPqA
import Derived.Test.YtmbnlccafcfbeaaDoorPq4
import Derived.Test.YtmbnlccafcfbeaaDoorPq5
set_option linter.unusedVariables false
set_option linter.unusedSimpArgs false
set_option linter.unusedSectionVars false
set_option maxRecDepth 100000
namespace Go.Proofs.YtmbnlccafcfbeaaDoor
section
open Go.RowKit
attribute [local go_sem] Oper.semAt_some
theorem i64_wf {z:Int} (h:(Lit.int .i64 z).wf=true):I64 z:=by
 simp only[Lit.wf,Bool.and_eq_true,decide_eq_true_eq] at h
 exact h
theorem row_ne {w:World} {B g n s:Nat} {e t:TypeId} {V:Value} {xs:List Value} {c:Array Value} (hl:w.ownsRow B e s V n xs) (h:Bk w g t c) (ht:t≠e):¬ V.ownBlock=some g:=fun he=>by
 obtain⟨_,⟨rfl,_⟩ | ⟨g2,cap,cur,rfl,_,h4,_⟩⟩:=hl
 ·cases he
 ·injection he with he
  change g2=g at he
  rw[he] at h4
  unfold Bk at h
  rw[h] at h4
  injection h4 with h4
  injection h4 with _ h4
  exact ht h4
def EncP (w:World) (l:List Int) (e:Ending) (w':World):Prop:=∃ v,e=.returned v∧w'.ownsRow w.heap.size 5 1 v l.length (byts l)∧Below w.heap.size w w'
theorem encCls_pos (k:Cls):1≤(encCls k).length:=by
 have:=encS_len k.nm
 unfold encCls
 simp only[List.length_append]
 omega
theorem encMth_pos (m:Mth):1≤(encMth m).length:=by
 have:=encS_len m.nm
 unfold encMth
 simp only[List.length_append]
 omega
theorem encIns_pos (x:Ins):1≤(encIns x).length:=by
 unfold encIns encI encU
 simp only[List.length_append,List.length_cons]
 omega
theorem encL_many {α:Type} {enc:α→List Int} (h:∀ x,1≤(enc x).length) (l:List α):l.length≤(encL enc l).length:=by
 have h1:l.length≤(l.flatMap enc).length:=by
  induction l with
  | nil=>exact Nat.le_refl _
  | cons x k ih=>have:=h x;rw[List.flatMap_cons,List.length_append,List.length_cons];omega
 unfold encL
 rw[List.length_append]
 omega
theorem encS_pos (s:ByteArray):1≤(encS s).length:=by have:=encS_len s;omega
/-- what an appending call leaves, in a chain -/
theorem ap_chain {B:Nat} {w:World} {V:Value} {l:List Int} {f:FuncId} {args:Array Value} {P:Program} (h:Calls P f args w (ApP B w V l)):Made P (fun v w'=>w'.ownsRow B 5 1 v (byts l).length (byts l)∧Kp (fun k=>V.ownBlock=some k) w w'∧∀ q,v.ownBlock=some q→V.ownBlock=some q ∨ w.heap.size≤q) (.ok (.enter f args) w) :=
 made_call (h.mono fun e w' ⟨v,he,h1,h2,h3⟩=>⟨v,he,by rw[byts_len];exact h1,h2,h3⟩)
theorem row_byts {B:Nat} {w:World} {v:Value} {l:List Int} (h:w.ownsRow B 5 1 v (byts l).length (byts l)):w.ownsRow B 5 1 v l.length (byts l):=by rw[byts_len] at h;exact h
section
variable {w:World} {cs:List Cls} {A:Option Addr} {n c:Nat}
set_option maxHeartbeats 16000000 in
theorem Encode_any (hC:CodeR w cs A n c) (hE:(encCode cs).length≤2147483648):Calls Tryd.prog 11 #[.agg #[.slice A n c]] w (EncP w (encCode cs)):=by
 obtain⟨hcn,hnc,hnn,hsl⟩:=hC
 subst hcn
 have hn32:cs.length≤2147483648:=Nat.le_trans (encL_many encCls_pos cs) hE
 have cU:=AppendUint_any (w:=w.alloc (.cells #[.slice A cs.length c] 24)) (B:=w.heap.size) (A:=none) (l:=[]) (c:=0) (n:=(cs.length:Int)) (World.ownsRow_nil _ _ _ _) (by simp) ⟨by omega,by omega⟩ (by simp)
 have hw0:IntKind.u64.wrap (cs.length:Int)=(cs.length:Int):=by rw[IntKind.wrap_u64];omega
 rw[List.nil_append] at cU
 have HB0:Hid (Below w.heap.size w (w.alloc (.cells #[.slice A cs.length c] 24))):=lh ((Below.refl _ _).alloc (Nat.le_refl _) _)
 have HX0:Hid (Bk (w.alloc (.cells #[.slice A cs.length c] 24)) w.heap.size 24 #[.slice A cs.length c]):=lh (Bk.new _ _ _)
 have HSL:=lh hsl
 have HT:=lh hE
 clear hsl hE hnn
 go_enter Tryd.func11,Tryd.ntmps11
 go_wp2_with fail
 refine cU.mono ?_
 rintro e w1 ⟨v1,rfl,ho1,hk1,hv1⟩
 have HO1:=lh ho1
 have HB1:Hid (Below w.heap.size w w1):=lh (hk1.toBelow HB0.out HB0.out.size fun q hq=>by cases hq)
 have HX1:=HX0.out.kp hk1 (fun e=>by cases e)
 have x0:w1.cell? ⟨w.heap.size,0,none⟩=some (.slice A cs.length c):=HX1.cell 0
 obtain⟨A0,c0,rfl,hc0⟩:=own_shape ho1
 clear cU ho1 hk1 hv1 HX0 HB0 HX1 hc0
 go_wp2_with fail
 clear x0
 go_loopw [3,18] (fun v ix wr=>∃ (j:Nat) (l1:List Int),ix=.int .i64 (j:Int)∧j≤cs.length∧l1=encU cs.length++(cs.take j).flatMap encCls∧wr.ownsRow w.heap.size 5 1 v l1.length (byts l1)∧Below w.heap.size w wr) (fun _ ix _=>cs.length - (intOf ix).toNat)
 case atStart=>exact⟨0,encU cs.length,rfl,Nat.zero_le _,by simp,HO1.out,HB1.out⟩
 case round =>
  clear HO1 HB1
  obtain⟨j,l1,rfl,hj,hl1,hown,hbl⟩:=hrel
  have HOW:=lh hown
  have HB:=lh hbl
  have HL1:=lh hl1
  obtain⟨A1,c1,rfl,hc1⟩:=own_shape hown
  clear hown hbl hl1
  by_cases hlt:j < cs.length
  ·obtain⟨bb,oo,x,r,hA,hbb,hx,hr,⟨hxok,F,cf,M,cm,rfl,hfc,hF,hmc,hM⟩,hcell⟩:=HSL.out.get hlt
   have hle:=encL_le encCls hx
   have htk:=encL_take encCls hx
   have e0:wr.cell? ⟨bb,oo+j*4,none⟩=some (.string x.nm):=((bcell HB.out).1 _ _ hbb).trans (hcell 0 _ rfl)
   have e1:wr.cell? ⟨bb,oo+j*4+1,none⟩=some (.bool x.actor):=((bcell HB.out).1 _ _ hbb).trans (hcell 1 _ rfl)
   have e2:wr.cell? ⟨bb,oo+j*4+2,none⟩=some (.slice F x.fields.length cf):=((bcell HB.out).1 _ _ hbb).trans (hcell 2 _ rfl)
   have e3:wr.cell? ⟨bb,oo+j*4+3,none⟩=some (.slice M x.ms.length cm):=((bcell HB.out).1 _ _ hbb).trans (hcell 3 _ rfl)
   subst hA
   have hjc:j < c:=by omega
   have hxe:(encCls x).length=(encS x.nm).length+(encB x.actor).length+(encL encS x.fields).length+(encL encMth x.ms).length:=by unfold encCls;simp only[List.length_append]
   have hl1:l1.length=(encU cs.length).length+((cs.take j).flatMap encCls).length:=by rw[HL1.out,List.length_append]
   have hsn:=encS_len x.nm
   have hbl1:(encB x.actor).length=1:=by cases x.actor <;> rfl
   have htot:l1.length+(encCls x).length≤2147483648:=by have:=HT.out;unfold encCode at this;omega
   have hms:=encL_many encMth_pos x.ms
   obtain⟨la,hla⟩:∃ la,la=l1++encS x.nm:=⟨_,rfl⟩
   obtain⟨lb,hlb⟩:∃ lb,lb=la++encB x.actor:=⟨_,rfl⟩
   obtain⟨l2,hl2⟩:∃ l2,l2=lb++encL encS x.fields:=⟨_,rfl⟩
   have hlal:la.length=l1.length+(encS x.nm).length:=by rw[hla,List.length_append]
   have hlbl:lb.length=la.length+(encB x.actor).length:=by rw[hlb,List.length_append]
   have hl2l:l2.length+(encL encMth x.ms).length≤2147483648:=by rw[hl2,List.length_append];omega
   have HLB:Hid (l1.length≤4294967296∧la.length≤4294967296∧lb.length+(encL encS x.fields).length≤4294967296∧x.nm.size≤4294967296):=lh ⟨by omega,by omega,by omega,by omega⟩
   have HLA:=lh (And.intro hla hlb)
   have HL2:=lh (And.intro hl2 hl2l)
   have HTK:=lh htk
   have HF:=lh hF
   have HM:=lh hM
   have HFB:Hid (∀ b o,F=some ⟨b,o,none⟩→x.fields.length≠0→b < w.heap.size):=lh fun b o e hn=>by
    obtain⟨b',o',e',h',_⟩:=hF.2.resolve_left hn
    rw[e] at e'
    cases e'
    exact h'
   have hxms:x.ms.length≤2147483648:=by omega
   have hwm:IntKind.u64.wrap (x.ms.length:Int)=(x.ms.length:Int):=by rw[IntKind.wrap_u64];omega
   clear hx hr hxok hF hM hcell hle htk hbb hxe hl1 hsn hbl1 htot hms hl2 hl2l hla hlb hlal hlbl
   go_upto_region 5 with fail
   obtain⟨wA,hwA⟩:∃ wA,wA=wr.alloc (.cells #[.string x.nm,.bool x.actor,.slice F x.fields.length cf,.slice M x.ms.length cm] 48):=⟨_,rfl⟩
   obtain⟨g5,hg5⟩:∃ g5,g5=wr.heap.size:=⟨_,rfl⟩
   have HK5:Hid (Bk wA g5 48 #[.string x.nm,.bool x.actor,.slice F x.fields.length cf,.slice M x.ms.length cm]):=lh (by rw[hwA,hg5];exact Bk.new _ _ _)
   have hbA:Below wr.heap.size wr wA:=by rw[hwA];exact(Below.refl _ _).alloc (Nat.le_refl _) _
   have HBA:=lh (HB.out.trans (hbA.mono HB.out.size))
   have HOA:=lh (own_local HOW.out (w':=wA) fun k hk=>hbA.block k (HOW.out.lt k hk).2)
   rw[← hwA,← hg5]
   have hBsz:=HBA.out.size
   clear hwA hg5 hbA HOW HB e0 e1 e2 e3
   refine wp_chain 11 10 (fun i=>([[],[],[1],[0,2],[],[4],[3,5],[],[7],[6,8],[9]]:List (List Nat)).getD i []) 5 w.heap.size ((.slice A1 l1.length c1)) (fun i=>([true,false,false,true,false,false,true,false,false,true,true]:List Bool).getD i false) (fun i=>([byts (l1),[],[],byts (la),[],[],byts (lb),[],[],byts (l2),byts (l2)]:List (List Value)).getD i []) (fun i=>([none,none,none,some 0,none,none,some 3,none,none,some 6,some 9]:List (Option Nat)).getD i none) (fun i=>([undef,.pointer (some ⟨g5,0,none⟩),.string x.nm,undef,.pointer (some ⟨g5,1,none⟩),.bool x.actor,undef,.pointer (some ⟨g5,2,none⟩),.slice F x.fields.length cf,undef,undef]:List Value).getD i undef) rfl (by kernel_rfl) (by rfl) (by kernel_rfl) ?_ ?_ ?_ ?_ ?_
   ·intro i hi hr hp
    rcases (show i=0 ∨ i=1 ∨ i=2 ∨ i=3 ∨ i=4 ∨ i=5 ∨ i=6 ∨ i=7 ∨ i=8 ∨ i=9 ∨ i=10 by omega) with rfl | rfl | rfl | rfl | rfl | rfl | rfl | rfl | rfl | rfl | rfl <;> first | (cases hr;done) | (cases hp;done) | exact(show wA.ownsRow w.heap.size 5 1 (.slice A1 l1.length c1) (byts l1).length (byts l1) from by rw[byts_len];exact HOA.out)
   ·intro i hi o ho hr vs w1 hk hvs
    rcases (show i=0 ∨ i=1 ∨ i=2 ∨ i=3 ∨ i=4 ∨ i=5 ∨ i=6 ∨ i=7 ∨ i=8 ∨ i=9 ∨ i=10 by omega) with rfl | rfl | rfl | rfl | rfl | rfl | rfl | rfl | rfl | rfl | rfl <;> cases ho
    ·cases hr
    ·change Sem.run _ (execOp (Act.eval (frm _ _ _ [])) _) _=_
     simp only[frm]
     clear hvs
     go_simp
    ·have h1:vs 1=.pointer (some ⟨g5,0,none⟩):=hvs 1 (by decide) rfl
     change Sem.run _ (execOp (Act.eval (Act.put (frm _ _ _ []) (some 23) (vs 1))) _) _=_
     simp only[frm,h1]
     have hbk:=HK5.out.kp hk (row_ne HOA.out HK5.out (by decide))
     have c0:w1.cell? ⟨g5,0,none⟩=some (.string x.nm):=hbk.cell 0
     clear hbk
     clear hvs
     go_simp
    ·cases hr
    ·change Sem.run _ (execOp (Act.eval (frm _ _ _ [])) _) _=_
     simp only[frm]
     clear hvs
     go_simp
    ·have h4:vs 4=.pointer (some ⟨g5,1,none⟩):=hvs 4 (by decide) rfl
     change Sem.run _ (execOp (Act.eval (Act.put (frm _ _ _ []) (some 26) (vs 4))) _) _=_
     simp only[frm,h4]
     have hbk:=HK5.out.kp hk (row_ne HOA.out HK5.out (by decide))
     have c0:w1.cell? ⟨g5,1,none⟩=some (.bool x.actor):=hbk.cell 1
     clear hbk
     clear hvs
     go_simp
    ·cases hr
    ·change Sem.run _ (execOp (Act.eval (frm _ _ _ [])) _) _=_
     simp only[frm]
     clear hvs
     go_simp
    ·have h7:vs 7=.pointer (some ⟨g5,2,none⟩):=hvs 7 (by decide) rfl
     change Sem.run _ (execOp (Act.eval (Act.put (frm _ _ _ []) (some 29) (vs 7))) _) _=_
     simp only[frm,h7]
     have hbk:=HK5.out.kp hk (row_ne HOA.out HK5.out (by decide))
     have c0:w1.cell? ⟨g5,2,none⟩=some (.slice F x.fields.length cf):=hbk.cell 2
     clear hbk
     clear hvs
     go_simp
    ·cases hr
    ·cases hr
   ·intro i hi o ho hr hp vs w1
    rcases (show i=0 ∨ i=1 ∨ i=2 ∨ i=3 ∨ i=4 ∨ i=5 ∨ i=6 ∨ i=7 ∨ i=8 ∨ i=9 ∨ i=10 by omega) with rfl | rfl | rfl | rfl | rfl | rfl | rfl | rfl | rfl | rfl | rfl <;> cases ho
    ·change Sem.run _ (execOp (Act.eval (frm _ _ _ [])) _) _=_
     simp only[frm]
     go_simp
    ·cases hr
    ·cases hr
    ·cases hp
    ·cases hr
    ·cases hr
    ·cases hp
    ·cases hr
    ·cases hr
    ·cases hp
    ·cases hp
   ·intro i hi o ho p hp vs w1 hk hvs hrow hsub
    rcases (show i=0 ∨ i=1 ∨ i=2 ∨ i=3 ∨ i=4 ∨ i=5 ∨ i=6 ∨ i=7 ∨ i=8 ∨ i=9 ∨ i=10 by omega) with rfl | rfl | rfl | rfl | rfl | rfl | rfl | rfl | rfl | rfl | rfl <;> cases ho
    ·cases hp
    ·cases hp
    ·cases hp
    ·cases hp
     replace hrow:=row_byts (show w1.ownsRow w.heap.size 5 1 (vs 0) (byts (l1)).length (byts (l1)) from hrow)
     show Made _ (fun v w'=>w'.ownsRow w.heap.size 5 1 v (byts (la)).length (byts (la))∧_) _
     obtain⟨A9,c9,hA1,hc9⟩:=own_shape hrow
     have h2:vs 2=.string x.nm:=hvs 2 (by decide) rfl
     change Made _ _ (Sem.run _ (execOp (Act.eval (Act.put (Act.put (frm _ _ _ []) (some 24) (vs 2)) (some 22) (vs 0))) _) _)
     simp only[frm,hA1,h2]
     rw[hA1] at hrow hsub
     clear hA1 hvs h2
     have cM:=AppendString_any (s:=x.nm) hrow (Nat.le_trans hBsz hk.size) HLB.out.2.2.2 HLB.out.1
     rw[← HLA.out.1] at cM
     clear hrow hsub
     go_simp
     exact ap_chain cM
    ·cases hp
    ·cases hp
    ·cases hp
     replace hrow:=row_byts (show w1.ownsRow w.heap.size 5 1 (vs 3) (byts (la)).length (byts (la)) from hrow)
     show Made _ (fun v w'=>w'.ownsRow w.heap.size 5 1 v (byts (lb)).length (byts (lb))∧_) _
     obtain⟨A9,c9,hA1,hc9⟩:=own_shape hrow
     have h5:vs 5=.bool x.actor:=hvs 5 (by decide) rfl
     change Made _ _ (Sem.run _ (execOp (Act.eval (Act.put (Act.put (frm _ _ _ []) (some 27) (vs 5)) (some 25) (vs 3))) _) _)
     simp only[frm,hA1,h5]
     rw[hA1] at hrow hsub
     clear hA1 hvs h5
     have cM:=AppendBool_any (x:=x.actor) hrow (Nat.le_trans hBsz hk.size) HLB.out.2.1
     rw[← HLA.out.2] at cM
     clear hrow hsub
     go_simp
     exact ap_chain cM
    ·cases hp
    ·cases hp
    ·cases hp
     replace hrow:=row_byts (show w1.ownsRow w.heap.size 5 1 (vs 6) (byts (lb)).length (byts (lb)) from hrow)
     show Made _ (fun v w'=>w'.ownsRow w.heap.size 5 1 v (byts (l2)).length (byts (l2))∧_) _
     obtain⟨A9,c9,hA1,hc9⟩:=own_shape hrow
     have h8:vs 8=.slice F x.fields.length cf:=hvs 8 (by decide) rfl
     change Made _ _ (Sem.run _ (execOp (Act.eval (Act.put (Act.put (frm _ _ _ []) (some 30) (vs 8)) (some 28) (vs 6))) _) _)
     simp only[frm,hA1,h8]
     rw[hA1] at hrow hsub
     clear hA1 hvs h8
     have cM:=appendStrings_any hrow (Nat.le_trans hBsz hk.size) (HF.out.below (hk.toBelow HBA.out hBsz fun q hq=>(HOA.out.lt q hq).1)) HFB.out hfc HLB.out.2.2.1
     rw[← HL2.out.1] at cM
     clear hrow hsub
     go_simp
     exact ap_chain cM
    ·cases hp
     replace hrow:=row_byts (show w1.ownsRow w.heap.size 5 1 (vs 9) (byts (l2)).length (byts (l2)) from hrow)
     show Made _ (fun v w'=>w'.ownsRow w.heap.size 5 1 v (byts (l2)).length (byts (l2))∧_) _
     obtain⟨A9,c9,hA1,hc9⟩:=own_shape hrow
     change Made _ _ (Sem.run _ (execOp (Act.eval (Act.put (frm _ _ _ []) (some 31) (vs 9))) _) _)
     simp only[frm,hA1]
     rw[hA1] at hrow hsub
     clear hA1 hvs
     go_simp
     exact made_ok ⟨by rw[byts_len];exact hrow,Kp.refl _ _,fun q hq=>.inl hq⟩
   ·intro vs w5 hk hvs hrow hsub
    have h1:vs 1=.pointer (some ⟨g5,0,none⟩):=hvs 1 (by decide) rfl
    have h2:vs 2=.string x.nm:=hvs 2 (by decide) rfl
    have h4:vs 4=.pointer (some ⟨g5,1,none⟩):=hvs 4 (by decide) rfl
    have h5:vs 5=.bool x.actor:=hvs 5 (by decide) rfl
    have h7:vs 7=.pointer (some ⟨g5,2,none⟩):=hvs 7 (by decide) rfl
    have h8:vs 8=.slice F x.fields.length cf:=hvs 8 (by decide) rfl
    change wpList _ _ _ [] (Act.put (Act.put (Act.put (Act.put (Act.put (Act.put (Act.put (Act.put (Act.put (Act.put (Act.put (frm _ _ _ []) (some 3) (vs 10)) (some 31) (vs 9)) (some 30) (vs 8)) (some 29) (vs 7)) (some 28) (vs 6)) (some 27) (vs 5)) (some 26) (vs 4)) (some 25) (vs 3)) (some 24) (vs 2)) (some 23) (vs 1)) (some 22) (vs 0)) _
    simp only[frm,h1,h2,h4,h5,h7,h8]
    obtain⟨vt,hvt⟩:∃ vt,vt=vs 10:=⟨_,rfl⟩
    generalize vs 0=vq0
    generalize vs 3=vq3
    generalize vs 6=vq6
    generalize vs 9=vq9
    have hrow2:w5.ownsRow w.heap.size 5 1 vt (byts (l2)).length (byts (l2)):=by rw[hvt];exact hrow
    have hsub2:Sub ((.slice A1 l1.length c1)) wA vt:=by rw[hvt];exact hsub
    rw[← hvt]
    clear hrow hsub hvs hvt h1 h2 h4 h5 h7 h8
    have HB5:Hid (Below w.heap.size w w5):=lh (hk.toBelow HBA.out hBsz fun q hq=>(HOA.out.lt q hq).1)
    have hk5:=HK5.out.kp hk (row_ne HOA.out HK5.out (by decide))
    have HO5:Hid (w5.ownsRow w.heap.size 5 1 vt l2.length (byts l2)):=lh (row_byts hrow2)
    have a3:w5.cell? ⟨g5,3,none⟩=some (.slice M x.ms.length cm):=hk5.cell 3
    have HK5':=lh hk5
    clear hrow2 hsub2 hk hk5 HOA HBA HK5 hBsz
    obtain⟨A2,c2,rfl,hc2⟩:=own_shape HO5.out
    have cU:=AppendUint_any HO5.out HB5.out.size (n:=(x.ms.length:Int)) ⟨by omega,by omega⟩ (by have:=HL2.out.2;omega)
    obtain⟨l3,hl3⟩:∃ l3,l3=l2++encU x.ms.length:=⟨_,rfl⟩
    rw[← hl3] at cU
    have HL3:=lh hl3
    clear hl3
    go_wp2_with fail
    refine cU.mono ?_
    rintro e w6 ⟨v6,rfl,ho6,hk6,hv6⟩
    have HO6:=lh ho6
    have HB6:Hid (Below w.heap.size w w6):=lh (hk6.toBelow HB5.out HB5.out.size fun q hq=>(HO5.out.lt q hq).1)
    have hk5:=HK5'.out.kp hk6 (row_ne HO5.out HK5'.out (by decide))
    have a3:w6.cell? ⟨g5,3,none⟩=some (.slice M x.ms.length cm):=hk5.cell 3
    obtain⟨A3,c3,rfl,hc3⟩:=own_shape ho6
    clear cU ho6 hk6 hv6 hk5 HK5' HO5 HB5
    go_wp2_with fail
    clear a3
    go_loopw [3,41] (fun v ix wr=>∃ (i:Nat) (l4:List Int),ix=.int .i64 (i:Int)∧i≤x.ms.length∧l4=l3++(x.ms.take i).flatMap encMth∧wr.ownsRow w.heap.size 5 1 v l4.length (byts l4)∧Below w.heap.size w wr) (fun _ ix _=>x.ms.length - (intOf ix).toNat)
    case atStart=>exact⟨0,l3,rfl,Nat.zero_le _,by simp,HO6.out,HB6.out⟩
    case round =>
     clear HO6 HB6
     obtain⟨i,l4,rfl,hi,hl4,hown,hbl⟩:=hrel
     have HOW:=lh hown
     have HB:=lh hbl
     have HL4:=lh hl4
     obtain⟨A4,c4,rfl,hc4⟩:=own_shape hown
     clear hown hbl hl4
     by_cases hlt2:i < x.ms.length
     ·obtain⟨b2,o2,m,r2,hA2,hb2,hm,hr2,⟨hmok,C,cc,N,cn,rfl,hcc,hCs,hcn,hNs⟩,hcell2⟩:=HM.out.get hlt2
      have hle:=encL_le encMth hm
      have htk:=encL_take encMth hm
      have e0:wr.cell? ⟨b2,o2+i*5,none⟩=some (.string m.nm):=((bcell HB.out).1 _ _ hb2).trans (hcell2 0 _ rfl)
      have e1:wr.cell? ⟨b2,o2+i*5+1,none⟩=some (.int .i64 m.p):=((bcell HB.out).1 _ _ hb2).trans (hcell2 1 _ rfl)
      have e2:wr.cell? ⟨b2,o2+i*5+2,none⟩=some (.int .i64 m.l):=((bcell HB.out).1 _ _ hb2).trans (hcell2 2 _ rfl)
      have e3:wr.cell? ⟨b2,o2+i*5+3,none⟩=some (.slice C m.code.length cc):=((bcell HB.out).1 _ _ hb2).trans (hcell2 3 _ rfl)
      have e4:wr.cell? ⟨b2,o2+i*5+4,none⟩=some (.slice N m.names.length cn):=((bcell HB.out).1 _ _ hb2).trans (hcell2 4 _ rfl)
      subst hA2
      have hic:i < cm:=by omega
      have hme:(encMth m).length=(encS m.nm).length+(encI m.p).length+(encI m.l).length+(encL encIns m.code).length+(encL encS m.names).length:=by unfold encMth;simp only[List.length_append]
      have hl4:l4.length=l2.length+(encU x.ms.length).length+((x.ms.take i).flatMap encMth).length:=by rw[HL4.out,HL3.out,List.length_append,List.length_append]
      have hsn:=encS_len m.nm
      have htot:l4.length+(encMth m).length≤2147483648:=by have:=HL2.out.2;omega
      have hcs:=encL_many encIns_pos m.code
      have hns:=encL_many encS_pos m.names
      obtain⟨la4,hla⟩:∃ la4,la4=l4++encS m.nm:=⟨_,rfl⟩
      obtain⟨lb4,hlb⟩:∃ lb4,lb4=la4++encI m.p:=⟨_,rfl⟩
      obtain⟨l5,hl5⟩:∃ l5,l5=lb4++encI m.l:=⟨_,rfl⟩
      have hlal:la4.length=l4.length+(encS m.nm).length:=by rw[hla,List.length_append]
      have hlbl:lb4.length=la4.length+(encI m.p).length:=by rw[hlb,List.length_append]
      have hl5l:l5.length+(encL encIns m.code).length+(encL encS m.names).length≤2147483648:=by rw[hl5,List.length_append];omega
      have HLB4:Hid (l4.length≤4294967296∧la4.length≤4294967296∧lb4.length≤4294967296∧m.nm.size≤4294967296):=lh ⟨by omega,by omega,by omega,by omega⟩
      have HLA4:=lh (And.intro hla hlb)
      have HL5:=lh (And.intro hl5 hl5l)
      have HTK4:=lh htk
      have HOK:=lh hmok
      have HCS:=lh hCs
      have HNS:=lh hNs
      have HNB:Hid (∀ b o,N=some ⟨b,o,none⟩→m.names.length≠0→b < w.heap.size):=lh fun b o e hn=>by
       obtain⟨b',o',e',h',_⟩:=hNs.2.resolve_left hn
       rw[e] at e'
       cases e'
       exact h'
      have hcode:m.code.length≤2147483648:=by omega
      have hwc:IntKind.u64.wrap (m.code.length:Int)=(m.code.length:Int):=by rw[IntKind.wrap_u64];omega
      clear hm hr2 hmok hCs hNs hcell2 hle htk hb2 hme hl4 hsn htot hcs hns hl5 hl5l hla hlb hlal hlbl
      go_upto_region 10 with fail
      obtain⟨wB,hwB⟩:∃ wB,wB=wr.alloc (.cells #[.string m.nm,.int .i64 m.p,.int .i64 m.l,.slice C m.code.length cc,.slice N m.names.length cn] 43):=⟨_,rfl⟩
      obtain⟨g7,hg7⟩:∃ g7,g7=wr.heap.size:=⟨_,rfl⟩
      have HK7:Hid (Bk wB g7 43 #[.string m.nm,.int .i64 m.p,.int .i64 m.l,.slice C m.code.length cc,.slice N m.names.length cn]):=lh (by rw[hwB,hg7];exact Bk.new _ _ _)
      have hbB:Below wr.heap.size wr wB:=by rw[hwB];exact(Below.refl _ _).alloc (Nat.le_refl _) _
      have HBB:=lh (HB.out.trans (hbB.mono HB.out.size))
      have HOB:=lh (own_local HOW.out (w':=wB) fun k hk=>hbB.block k (HOW.out.lt k hk).2)
      rw[← hwB,← hg7]
      have hBsz:=HBB.out.size
      clear hwB hg7 hbB HOW HB e0 e1 e2 e3 e4
      refine wp_chain 11 10 (fun i=>([[],[],[1],[0,2],[],[4],[3,5],[],[7],[6,8],[9]]:List (List Nat)).getD i []) 5 w.heap.size ((.slice A4 l4.length c4)) (fun i=>([true,false,false,true,false,false,true,false,false,true,true]:List Bool).getD i false) (fun i=>([byts (l4),[],[],byts (la4),[],[],byts (lb4),[],[],byts (l5),byts (l5)]:List (List Value)).getD i []) (fun i=>([none,none,none,some 0,none,none,some 3,none,none,some 6,some 9]:List (Option Nat)).getD i none) (fun i=>([undef,.pointer (some ⟨g7,0,none⟩),.string m.nm,undef,.pointer (some ⟨g7,1,none⟩),.int .i64 m.p,undef,.pointer (some ⟨g7,2,none⟩),.int .i64 m.l,undef,undef]:List Value).getD i undef) rfl (by kernel_rfl) (by rfl) (by kernel_rfl) ?_ ?_ ?_ ?_ ?_
      ·intro i hi hr hp
       rcases (show i=0 ∨ i=1 ∨ i=2 ∨ i=3 ∨ i=4 ∨ i=5 ∨ i=6 ∨ i=7 ∨ i=8 ∨ i=9 ∨ i=10 by omega) with rfl | rfl | rfl | rfl | rfl | rfl | rfl | rfl | rfl | rfl | rfl <;> first | (cases hr;done) | (cases hp;done) | exact(show wB.ownsRow w.heap.size 5 1 (.slice A4 l4.length c4) (byts l4).length (byts l4) from by rw[byts_len];exact HOB.out)
      ·intro i hi o ho hr vs w1 hk hvs
       rcases (show i=0 ∨ i=1 ∨ i=2 ∨ i=3 ∨ i=4 ∨ i=5 ∨ i=6 ∨ i=7 ∨ i=8 ∨ i=9 ∨ i=10 by omega) with rfl | rfl | rfl | rfl | rfl | rfl | rfl | rfl | rfl | rfl | rfl <;> cases ho
       ·cases hr
       ·change Sem.run _ (execOp (Act.eval (frm _ _ _ [])) _) _=_
        simp only[frm]
        clear hvs
        go_simp
       ·have h1:vs 1=.pointer (some ⟨g7,0,none⟩):=hvs 1 (by decide) rfl
        change Sem.run _ (execOp (Act.eval (Act.put (frm _ _ _ []) (some 46) (vs 1))) _) _=_
        simp only[frm,h1]
        have hbk:=HK7.out.kp hk (row_ne HOB.out HK7.out (by decide))
        have c0:w1.cell? ⟨g7,0,none⟩=some (.string m.nm):=hbk.cell 0
        clear hbk
        clear hvs
        go_simp
       ·cases hr
       ·change Sem.run _ (execOp (Act.eval (frm _ _ _ [])) _) _=_
        simp only[frm]
        clear hvs
        go_simp
       ·have h4:vs 4=.pointer (some ⟨g7,1,none⟩):=hvs 4 (by decide) rfl
        change Sem.run _ (execOp (Act.eval (Act.put (frm _ _ _ []) (some 49) (vs 4))) _) _=_
        simp only[frm,h4]
        have hbk:=HK7.out.kp hk (row_ne HOB.out HK7.out (by decide))
        have c0:w1.cell? ⟨g7,1,none⟩=some (.int .i64 m.p):=hbk.cell 1
        clear hbk
        clear hvs
        go_simp
       ·cases hr
       ·change Sem.run _ (execOp (Act.eval (frm _ _ _ [])) _) _=_
        simp only[frm]
        clear hvs
        go_simp
       ·have h7:vs 7=.pointer (some ⟨g7,2,none⟩):=hvs 7 (by decide) rfl
        change Sem.run _ (execOp (Act.eval (Act.put (frm _ _ _ []) (some 52) (vs 7))) _) _=_
        simp only[frm,h7]
        have hbk:=HK7.out.kp hk (row_ne HOB.out HK7.out (by decide))
        have c0:w1.cell? ⟨g7,2,none⟩=some (.int .i64 m.l):=hbk.cell 2
        clear hbk
        clear hvs
        go_simp
       ·cases hr
       ·cases hr
      ·intro i hi o ho hr hp vs w1
       rcases (show i=0 ∨ i=1 ∨ i=2 ∨ i=3 ∨ i=4 ∨ i=5 ∨ i=6 ∨ i=7 ∨ i=8 ∨ i=9 ∨ i=10 by omega) with rfl | rfl | rfl | rfl | rfl | rfl | rfl | rfl | rfl | rfl | rfl <;> cases ho
       ·change Sem.run _ (execOp (Act.eval (frm _ _ _ [])) _) _=_
        simp only[frm]
        go_simp
       ·cases hr
       ·cases hr
       ·cases hp
       ·cases hr
       ·cases hr
       ·cases hp
       ·cases hr
       ·cases hr
       ·cases hp
       ·cases hp
      ·intro i hi o ho p hp vs w1 hk hvs hrow hsub
       rcases (show i=0 ∨ i=1 ∨ i=2 ∨ i=3 ∨ i=4 ∨ i=5 ∨ i=6 ∨ i=7 ∨ i=8 ∨ i=9 ∨ i=10 by omega) with rfl | rfl | rfl | rfl | rfl | rfl | rfl | rfl | rfl | rfl | rfl <;> cases ho
       ·cases hp
       ·cases hp
       ·cases hp
       ·cases hp
        replace hrow:=row_byts (show w1.ownsRow w.heap.size 5 1 (vs 0) (byts (l4)).length (byts (l4)) from hrow)
        show Made _ (fun v w'=>w'.ownsRow w.heap.size 5 1 v (byts (la4)).length (byts (la4))∧_) _
        obtain⟨A9,c9,hA1,hc9⟩:=own_shape hrow
        have h2:vs 2=.string m.nm:=hvs 2 (by decide) rfl
        change Made _ _ (Sem.run _ (execOp (Act.eval (Act.put (Act.put (frm _ _ _ []) (some 47) (vs 2)) (some 45) (vs 0))) _) _)
        simp only[frm,hA1,h2]
        rw[hA1] at hrow hsub
        clear hA1 hvs h2
        have cM:=AppendString_any (s:=m.nm) hrow (Nat.le_trans hBsz hk.size) HLB4.out.2.2.2 HLB4.out.1
        rw[← HLA4.out.1] at cM
        clear hrow hsub
        go_simp
        exact ap_chain cM
       ·cases hp
       ·cases hp
       ·cases hp
        replace hrow:=row_byts (show w1.ownsRow w.heap.size 5 1 (vs 3) (byts (la4)).length (byts (la4)) from hrow)
        show Made _ (fun v w'=>w'.ownsRow w.heap.size 5 1 v (byts (lb4)).length (byts (lb4))∧_) _
        obtain⟨A9,c9,hA1,hc9⟩:=own_shape hrow
        have h5:vs 5=.int .i64 m.p:=hvs 5 (by decide) rfl
        change Made _ _ (Sem.run _ (execOp (Act.eval (Act.put (Act.put (frm _ _ _ []) (some 50) (vs 5)) (some 48) (vs 3))) _) _)
        simp only[frm,hA1,h5]
        rw[hA1] at hrow hsub
        clear hA1 hvs h5
        have cM:=AppendInt_any hrow (Nat.le_trans hBsz hk.size) (i64_wf HOK.out.p) HLB4.out.2.1
        rw[← HLA4.out.2] at cM
        clear hrow hsub
        go_simp
        exact ap_chain cM
       ·cases hp
       ·cases hp
       ·cases hp
        replace hrow:=row_byts (show w1.ownsRow w.heap.size 5 1 (vs 6) (byts (lb4)).length (byts (lb4)) from hrow)
        show Made _ (fun v w'=>w'.ownsRow w.heap.size 5 1 v (byts (l5)).length (byts (l5))∧_) _
        obtain⟨A9,c9,hA1,hc9⟩:=own_shape hrow
        have h8:vs 8=.int .i64 m.l:=hvs 8 (by decide) rfl
        change Made _ _ (Sem.run _ (execOp (Act.eval (Act.put (Act.put (frm _ _ _ []) (some 53) (vs 8)) (some 51) (vs 6))) _) _)
        simp only[frm,hA1,h8]
        rw[hA1] at hrow hsub
        clear hA1 hvs h8
        have cM:=AppendInt_any hrow (Nat.le_trans hBsz hk.size) (i64_wf HOK.out.l) HLB4.out.2.2.1
        rw[← HL5.out.1] at cM
        clear hrow hsub
        go_simp
        exact ap_chain cM
       ·cases hp
        replace hrow:=row_byts (show w1.ownsRow w.heap.size 5 1 (vs 9) (byts (l5)).length (byts (l5)) from hrow)
        show Made _ (fun v w'=>w'.ownsRow w.heap.size 5 1 v (byts (l5)).length (byts (l5))∧_) _
        obtain⟨A9,c9,hA1,hc9⟩:=own_shape hrow
        change Made _ _ (Sem.run _ (execOp (Act.eval (Act.put (frm _ _ _ []) (some 54) (vs 9))) _) _)
        simp only[frm,hA1]
        rw[hA1] at hrow hsub
        clear hA1 hvs
        go_simp
        exact made_ok ⟨by rw[byts_len];exact hrow,Kp.refl _ _,fun q hq=>.inl hq⟩
      ·intro vs w5 hk hvs hrow hsub
       have h1:vs 1=.pointer (some ⟨g7,0,none⟩):=hvs 1 (by decide) rfl
       have h2:vs 2=.string m.nm:=hvs 2 (by decide) rfl
       have h4:vs 4=.pointer (some ⟨g7,1,none⟩):=hvs 4 (by decide) rfl
       have h5:vs 5=.int .i64 m.p:=hvs 5 (by decide) rfl
       have h7:vs 7=.pointer (some ⟨g7,2,none⟩):=hvs 7 (by decide) rfl
       have h8:vs 8=.int .i64 m.l:=hvs 8 (by decide) rfl
       change wpList _ _ _ [] (Act.put (Act.put (Act.put (Act.put (Act.put (Act.put (Act.put (Act.put (Act.put (Act.put (Act.put (frm _ _ _ []) (some 3) (vs 10)) (some 54) (vs 9)) (some 53) (vs 8)) (some 52) (vs 7)) (some 51) (vs 6)) (some 50) (vs 5)) (some 49) (vs 4)) (some 48) (vs 3)) (some 47) (vs 2)) (some 46) (vs 1)) (some 45) (vs 0)) _
       simp only[frm,h1,h2,h4,h5,h7,h8]
       obtain⟨vt,hvt⟩:∃ vt,vt=vs 10:=⟨_,rfl⟩
       generalize vs 0=vq0
       generalize vs 3=vq3
       generalize vs 6=vq6
       generalize vs 9=vq9
       have hrow2:w5.ownsRow w.heap.size 5 1 vt (byts (l5)).length (byts (l5)):=by rw[hvt];exact hrow
       have hsub2:Sub ((.slice A4 l4.length c4)) wB vt:=by rw[hvt];exact hsub
       rw[← hvt]
       clear hrow hsub hvs hvt h1 h2 h4 h5 h7 h8
       have HB5:Hid (Below w.heap.size w w5):=lh (hk.toBelow HBB.out hBsz fun q hq=>(HOB.out.lt q hq).1)
       have hk7:=HK7.out.kp hk (row_ne HOB.out HK7.out (by decide))
       have HO5:Hid (w5.ownsRow w.heap.size 5 1 vt l5.length (byts l5)):=lh (row_byts hrow2)
       have a3:w5.cell? ⟨g7,3,none⟩=some (.slice C m.code.length cc):=hk7.cell 3
       have HK7':=lh hk7
       clear hrow2 hsub2 hk hk7 HOB HBB HK7 hBsz
       obtain⟨A5,c5,rfl,hc5⟩:=own_shape HO5.out
       have cU:=AppendUint_any HO5.out HB5.out.size (n:=(m.code.length:Int)) ⟨by omega,by omega⟩ (by have:=HL5.out.2;omega)
       obtain⟨l6,hl6⟩:∃ l6,l6=l5++encU m.code.length:=⟨_,rfl⟩
       rw[← hl6] at cU
       have HL6:=lh hl6
       clear hl6
       go_wp2_with fail
       refine cU.mono ?_
       rintro e w6_ ⟨v6,rfl,ho6,hk6,hv6⟩
       have HO6:=lh ho6
       have HB6:Hid (Below w.heap.size w w6_):=lh (hk6.toBelow HB5.out HB5.out.size fun q hq=>(HO5.out.lt q hq).1)
       have hk7:=HK7'.out.kp hk6 (row_ne HO5.out HK7'.out (by decide))
       have a3:w6_.cell? ⟨g7,3,none⟩=some (.slice C m.code.length cc):=hk7.cell 3
       have HK76:=lh hk7
       obtain⟨A6,c6,rfl,hc6⟩:=own_shape ho6
       clear cU ho6 hk6 hv6 hk7 HK7' HO5 HB5
       go_wp2_with fail
       clear a3
       go_loopw [3,64] (fun v ix wr=>∃ (q:Nat) (l7:List Int),ix=.int .i64 (q:Int)∧q≤m.code.length∧l7=l6++(m.code.take q).flatMap encIns∧wr.ownsRow w.heap.size 5 1 v l7.length (byts l7)∧Below w.heap.size w wr∧Bk wr g7 43 #[.string m.nm,.int .i64 m.p,.int .i64 m.l,.slice C m.code.length cc,.slice N m.names.length cn]) (fun _ ix _=>m.code.length - (intOf ix).toNat)
       case atStart=>exact⟨0,l6,rfl,Nat.zero_le _,by simp,HO6.out,HB6.out,HK76.out⟩
       case round =>
        clear HO6 HB6 HK76
        obtain⟨q,l7,rfl,hq,hl7,hown,hbl,hk7⟩:=hrel
        have HOW:=lh hown
        have HB:=lh hbl
        have HL7:=lh hl7
        have HK7:=lh hk7
        obtain⟨A7,c7,rfl,hc7⟩:=own_shape hown
        clear hown hbl hl7 hk7
        by_cases hlt3:q < m.code.length
        ·have hx:m.code[q]?=some m.code[q]:=List.getElem?_eq_getElem hlt3
         have hwf:=HOK.out.code _ (List.mem_of_getElem? hx)
         have hle:=encL_le encIns hx
         have htk:=encL_take encIns hx
         have hcg:=codeCells_get _ _ _ hx
         obtain⟨b3,o3,hA3,hb3,hcc3⟩:=HCS.out.2.resolve_left (by omega)
         have e0:wr.cell? ⟨b3,o3+q*3,none⟩=some (.int .i64 m.code[q].1):=((bcell HB.out).1 _ _ hb3).trans (hcc3 _ _ hcg.1)
         have e1:wr.cell? ⟨b3,o3+q*3+1,none⟩=some (.int .i64 m.code[q].2.1):=((bcell HB.out).1 _ _ hb3).trans (hcc3 _ _ hcg.2.1)
         have e2:wr.cell? ⟨b3,o3+q*3+2,none⟩=some (.int .i64 m.code[q].2.2):=((bcell HB.out).1 _ _ hb3).trans (hcc3 _ _ hcg.2.2)
         subst hA3
         have hqc:q < cc:=by omega
         obtain⟨⟨y1,y2,y3⟩,hy⟩:∃ y:Ins,y=m.code[q]:=⟨_,rfl⟩
         rw[← hy] at e0 e1 e2 hwf hle htk
         dsimp only at e0 e1 e2 hwf
         have hye:(encIns (y1,y2,y3)).length=(encI y1).length+(encI y2).length+(encI y3).length:=by unfold encIns;simp only[List.length_append]
         have hl7:l7.length=l5.length+(encU m.code.length).length+((m.code.take q).flatMap encIns).length:=by rw[HL7.out,HL6.out,List.length_append,List.length_append]
         have htot:l7.length+(encIns (y1,y2,y3)).length≤2147483648:=by have:=HL5.out.2;omega
         obtain⟨la7,hla⟩:∃ la7,la7=l7++encI y1:=⟨_,rfl⟩
         obtain⟨lb7,hlb⟩:∃ lb7,lb7=la7++encI y2:=⟨_,rfl⟩
         obtain⟨l8,hl8⟩:∃ l8,l8=lb7++encI y3:=⟨_,rfl⟩
         have hlal:la7.length=l7.length+(encI y1).length:=by rw[hla,List.length_append]
         have hlbl:lb7.length=la7.length+(encI y2).length:=by rw[hlb,List.length_append]
         have HLB7:Hid (l7.length≤4294967296∧la7.length≤4294967296∧lb7.length≤4294967296∧I64 y1∧I64 y2∧I64 y3):=lh ⟨by omega,by omega,by omega,i64_wf hwf.1,i64_wf hwf.2.1,i64_wf hwf.2.2⟩
         have HLA7:=lh (And.intro hla (And.intro hlb hl8))
         have HTK7:=lh htk
         clear hx hwf hle htk hcg hcc3 hb3 hy hye hl7 htot hla hlb hl8 hlal hlbl
         go_upto_region 15 with fail
         obtain⟨wC,hwC⟩:∃ wC,wC=wr.alloc (.cells #[.int .i64 y1,.int .i64 y2,.int .i64 y3] 37):=⟨_,rfl⟩
         obtain⟨g9,hg9⟩:∃ g9,g9=wr.heap.size:=⟨_,rfl⟩
         have HK9:Hid (Bk wC g9 37 #[.int .i64 y1,.int .i64 y2,.int .i64 y3]):=lh (by rw[hwC,hg9];exact Bk.new _ _ _)
         have hbC:Below wr.heap.size wr wC:=by rw[hwC];exact(Below.refl _ _).alloc (Nat.le_refl _) _
         have HBC:=lh (HB.out.trans (hbC.mono HB.out.size))
         have HOC:=lh (own_local HOW.out (w':=wC) fun k hk=>hbC.block k (HOW.out.lt k hk).2)
         have HK7C:=lh (HK7.out.below hbC HK7.out.lt)
         rw[← hwC,← hg9]
         have hBsz:=HBC.out.size
         clear hwC hg9 hbC HOW HB HK7 e0 e1 e2
         refine wp_chain 11 10 (fun i=>([[],[],[1],[0,2],[],[4],[3,5],[],[7],[6,8],[9]]:List (List Nat)).getD i []) 5 w.heap.size ((.slice A7 l7.length c7)) (fun i=>([true,false,false,true,false,false,true,false,false,true,true]:List Bool).getD i false) (fun i=>([byts (l7),[],[],byts (la7),[],[],byts (lb7),[],[],byts (l8),byts (l8)]:List (List Value)).getD i []) (fun i=>([none,none,none,some 0,none,none,some 3,none,none,some 6,some 9]:List (Option Nat)).getD i none) (fun i=>([undef,.pointer (some ⟨g9,0,none⟩),.int .i64 y1,undef,.pointer (some ⟨g9,1,none⟩),.int .i64 y2,undef,.pointer (some ⟨g9,2,none⟩),.int .i64 y3,undef,undef]:List Value).getD i undef) rfl (by kernel_rfl) (by rfl) (by kernel_rfl) ?_ ?_ ?_ ?_ ?_
         ·intro i hi hr hp
          rcases (show i=0 ∨ i=1 ∨ i=2 ∨ i=3 ∨ i=4 ∨ i=5 ∨ i=6 ∨ i=7 ∨ i=8 ∨ i=9 ∨ i=10 by omega) with rfl | rfl | rfl | rfl | rfl | rfl | rfl | rfl | rfl | rfl | rfl <;> first | (cases hr;done) | (cases hp;done) | exact(show wC.ownsRow w.heap.size 5 1 (.slice A7 l7.length c7) (byts l7).length (byts l7) from by rw[byts_len];exact HOC.out)
         ·intro i hi o ho hr vs w1 hk hvs
          rcases (show i=0 ∨ i=1 ∨ i=2 ∨ i=3 ∨ i=4 ∨ i=5 ∨ i=6 ∨ i=7 ∨ i=8 ∨ i=9 ∨ i=10 by omega) with rfl | rfl | rfl | rfl | rfl | rfl | rfl | rfl | rfl | rfl | rfl <;> cases ho
          ·cases hr
          ·change Sem.run _ (execOp (Act.eval (frm _ _ _ [])) _) _=_
           simp only[frm]
           clear hvs
           go_simp
          ·have h1:vs 1=.pointer (some ⟨g9,0,none⟩):=hvs 1 (by decide) rfl
           change Sem.run _ (execOp (Act.eval (Act.put (frm _ _ _ []) (some 69) (vs 1))) _) _=_
           simp only[frm,h1]
           have hbk:=HK9.out.kp hk (row_ne HOC.out HK9.out (by decide))
           have c0:w1.cell? ⟨g9,0,none⟩=some (.int .i64 y1):=hbk.cell 0
           clear hbk
           clear hvs
           go_simp
          ·cases hr
          ·change Sem.run _ (execOp (Act.eval (frm _ _ _ [])) _) _=_
           simp only[frm]
           clear hvs
           go_simp
          ·have h4:vs 4=.pointer (some ⟨g9,1,none⟩):=hvs 4 (by decide) rfl
           change Sem.run _ (execOp (Act.eval (Act.put (frm _ _ _ []) (some 72) (vs 4))) _) _=_
           simp only[frm,h4]
           have hbk:=HK9.out.kp hk (row_ne HOC.out HK9.out (by decide))
           have c0:w1.cell? ⟨g9,1,none⟩=some (.int .i64 y2):=hbk.cell 1
           clear hbk
           clear hvs
           go_simp
          ·cases hr
          ·change Sem.run _ (execOp (Act.eval (frm _ _ _ [])) _) _=_
           simp only[frm]
           clear hvs
           go_simp
          ·have h7:vs 7=.pointer (some ⟨g9,2,none⟩):=hvs 7 (by decide) rfl
           change Sem.run _ (execOp (Act.eval (Act.put (frm _ _ _ []) (some 75) (vs 7))) _) _=_
           simp only[frm,h7]
           have hbk:=HK9.out.kp hk (row_ne HOC.out HK9.out (by decide))
           have c0:w1.cell? ⟨g9,2,none⟩=some (.int .i64 y3):=hbk.cell 2
           clear hbk
           clear hvs
           go_simp
          ·cases hr
          ·cases hr
         ·intro i hi o ho hr hp vs w1
          rcases (show i=0 ∨ i=1 ∨ i=2 ∨ i=3 ∨ i=4 ∨ i=5 ∨ i=6 ∨ i=7 ∨ i=8 ∨ i=9 ∨ i=10 by omega) with rfl | rfl | rfl | rfl | rfl | rfl | rfl | rfl | rfl | rfl | rfl <;> cases ho
          ·change Sem.run _ (execOp (Act.eval (frm _ _ _ [])) _) _=_
           simp only[frm]
           go_simp
          ·cases hr
          ·cases hr
          ·cases hp
          ·cases hr
          ·cases hr
          ·cases hp
          ·cases hr
          ·cases hr
          ·cases hp
          ·cases hp
         ·intro i hi o ho p hp vs w1 hk hvs hrow hsub
          rcases (show i=0 ∨ i=1 ∨ i=2 ∨ i=3 ∨ i=4 ∨ i=5 ∨ i=6 ∨ i=7 ∨ i=8 ∨ i=9 ∨ i=10 by omega) with rfl | rfl | rfl | rfl | rfl | rfl | rfl | rfl | rfl | rfl | rfl <;> cases ho
          ·cases hp
          ·cases hp
          ·cases hp
          ·cases hp
           replace hrow:=row_byts (show w1.ownsRow w.heap.size 5 1 (vs 0) (byts (l7)).length (byts (l7)) from hrow)
           show Made _ (fun v w'=>w'.ownsRow w.heap.size 5 1 v (byts (la7)).length (byts (la7))∧_) _
           obtain⟨A9,c9,hA1,hc9⟩:=own_shape hrow
           have h2:vs 2=.int .i64 y1:=hvs 2 (by decide) rfl
           change Made _ _ (Sem.run _ (execOp (Act.eval (Act.put (Act.put (frm _ _ _ []) (some 70) (vs 2)) (some 68) (vs 0))) _) _)
           simp only[frm,hA1,h2]
           rw[hA1] at hrow hsub
           clear hA1 hvs h2
           have cM:=AppendInt_any hrow (Nat.le_trans hBsz hk.size) HLB7.out.2.2.2.1 HLB7.out.1
           rw[← HLA7.out.1] at cM
           clear hrow hsub
           go_simp
           exact ap_chain cM
          ·cases hp
          ·cases hp
          ·cases hp
           replace hrow:=row_byts (show w1.ownsRow w.heap.size 5 1 (vs 3) (byts (la7)).length (byts (la7)) from hrow)
           show Made _ (fun v w'=>w'.ownsRow w.heap.size 5 1 v (byts (lb7)).length (byts (lb7))∧_) _
           obtain⟨A9,c9,hA1,hc9⟩:=own_shape hrow
           have h5:vs 5=.int .i64 y2:=hvs 5 (by decide) rfl
           change Made _ _ (Sem.run _ (execOp (Act.eval (Act.put (Act.put (frm _ _ _ []) (some 73) (vs 5)) (some 71) (vs 3))) _) _)
           simp only[frm,hA1,h5]
           rw[hA1] at hrow hsub
           clear hA1 hvs h5
           have cM:=AppendInt_any hrow (Nat.le_trans hBsz hk.size) HLB7.out.2.2.2.2.1 HLB7.out.2.1
           rw[← HLA7.out.2.1] at cM
           clear hrow hsub
           go_simp
           exact ap_chain cM
          ·cases hp
          ·cases hp
          ·cases hp
           replace hrow:=row_byts (show w1.ownsRow w.heap.size 5 1 (vs 6) (byts (lb7)).length (byts (lb7)) from hrow)
           show Made _ (fun v w'=>w'.ownsRow w.heap.size 5 1 v (byts (l8)).length (byts (l8))∧_) _
           obtain⟨A9,c9,hA1,hc9⟩:=own_shape hrow
           have h8:vs 8=.int .i64 y3:=hvs 8 (by decide) rfl
           change Made _ _ (Sem.run _ (execOp (Act.eval (Act.put (Act.put (frm _ _ _ []) (some 76) (vs 8)) (some 74) (vs 6))) _) _)
           simp only[frm,hA1,h8]
           rw[hA1] at hrow hsub
           clear hA1 hvs h8
           have cM:=AppendInt_any hrow (Nat.le_trans hBsz hk.size) HLB7.out.2.2.2.2.2 HLB7.out.2.2.1
           rw[← HLA7.out.2.2] at cM
           clear hrow hsub
           go_simp
           exact ap_chain cM
          ·cases hp
           replace hrow:=row_byts (show w1.ownsRow w.heap.size 5 1 (vs 9) (byts (l8)).length (byts (l8)) from hrow)
           show Made _ (fun v w'=>w'.ownsRow w.heap.size 5 1 v (byts (l8)).length (byts (l8))∧_) _
           obtain⟨A9,c9,hA1,hc9⟩:=own_shape hrow
           change Made _ _ (Sem.run _ (execOp (Act.eval (Act.put (frm _ _ _ []) (some 77) (vs 9))) _) _)
           simp only[frm,hA1]
           rw[hA1] at hrow hsub
           clear hA1 hvs
           go_simp
           exact made_ok ⟨by rw[byts_len];exact hrow,Kp.refl _ _,fun q hq=>.inl hq⟩
         ·intro vs w5 hk hvs hrow hsub
          have h1:vs 1=.pointer (some ⟨g9,0,none⟩):=hvs 1 (by decide) rfl
          have h2:vs 2=.int .i64 y1:=hvs 2 (by decide) rfl
          have h4:vs 4=.pointer (some ⟨g9,1,none⟩):=hvs 4 (by decide) rfl
          have h5:vs 5=.int .i64 y2:=hvs 5 (by decide) rfl
          have h7:vs 7=.pointer (some ⟨g9,2,none⟩):=hvs 7 (by decide) rfl
          have h8:vs 8=.int .i64 y3:=hvs 8 (by decide) rfl
          change wpList _ _ _ [] (Act.put (Act.put (Act.put (Act.put (Act.put (Act.put (Act.put (Act.put (Act.put (Act.put (Act.put (frm _ _ _ []) (some 3) (vs 10)) (some 77) (vs 9)) (some 76) (vs 8)) (some 75) (vs 7)) (some 74) (vs 6)) (some 73) (vs 5)) (some 72) (vs 4)) (some 71) (vs 3)) (some 70) (vs 2)) (some 69) (vs 1)) (some 68) (vs 0)) _
          simp only[frm,h1,h2,h4,h5,h7,h8]
          obtain⟨vt,hvt⟩:∃ vt,vt=vs 10:=⟨_,rfl⟩
          generalize vs 0=vq0
          generalize vs 3=vq3
          generalize vs 6=vq6
          generalize vs 9=vq9
          have hrow2:w5.ownsRow w.heap.size 5 1 vt (byts (l8)).length (byts (l8)):=by rw[hvt];exact hrow
          have hsub2:Sub ((.slice A7 l7.length c7)) wC vt:=by rw[hvt];exact hsub
          rw[← hvt]
          clear hrow hsub hvs hvt h1 h2 h4 h5 h7 h8
          have HB5:Hid (Below w.heap.size w w5):=lh (hk.toBelow HBC.out hBsz fun q hq=>(HOC.out.lt q hq).1)
          have HK75:=lh (HK7C.out.kp hk (row_ne HOC.out HK7C.out (by decide)))
          have HO5:Hid (w5.ownsRow w.heap.size 5 1 vt l8.length (byts l8)):=lh (row_byts hrow2)
          clear hrow2 hsub2 hk HOC HBC HK9 HK7C hBsz
          go_wp2_with fail
          go_roundw
          case rel=>exact⟨q+1,l8,by go_num,by omega,by rw[HLA7.out.2.2,HLA7.out.2.1,HLA7.out.1,HL7.out,HTK7.out];simp only[encIns,List.append_assoc],HO5.out,HB5.out,HK75.out⟩
          case measure=>simp[intOf];omega
        ·obtain rfl:q=m.code.length:=by omega
         have hl7:l7=l5++encL encIns m.code:=by rw[HL7.out,HL6.out,List.take_of_length_le (Nat.le_refl _),List.append_assoc];rfl
         have hl7l:l7.length+(encL encS m.names).length≤2147483648:=by have:=HL5.out.2;rw[hl7,List.length_append];omega
         have cT:=appendStrings_any HOW.out HB.out.size (HNS.out.below HB.out) HNB.out hcn (by omega)
         obtain⟨l8,hl8⟩:∃ l8,l8=l7++encL encS m.names:=⟨_,rfl⟩
         rw[← hl8] at cT
         have HL8:=lh (And.intro hl8 hl7)
         have a4:wr.cell? ⟨g7,4,none⟩=some (.slice N m.names.length cn):=HK7.out.cell 4
         clear hl7 hl8 hl7l hq
         go_wp2_with fail
         refine cT.mono ?_
         rintro e w9 ⟨v9,rfl,ho9,hk9,hv9⟩
         have HO9:=lh ho9
         have HB9:Hid (Below w.heap.size w w9):=lh (hk9.toBelow HB.out HB.out.size fun q hq=>(HOW.out.lt q hq).1)
         obtain⟨A9,c9,rfl,hc9⟩:=own_shape ho9
         clear cT ho9 hk9 hv9 a4 HOW HB
         go_wp2_with fail
         go_roundw
         case rel=>exact⟨i+1,l8,by go_num,by omega,by rw[HL8.out.1,HL8.out.2,HL5.out.1,HLA4.out.2,HLA4.out.1,HL4.out,HTK4.out];simp only[encMth,List.append_assoc],HO9.out,HB9.out⟩
         case measure=>simp[intOf];omega
     ·obtain rfl:i=x.ms.length:=by omega
      clear hlt2 hi
      go_wp2_with fail
      go_roundw
      case rel=>exact⟨j+1,l4,by go_num,by omega,by rw[HL4.out,HL3.out,HL2.out.1,HLA.out.2,HLA.out.1,HL1.out,HTK.out,List.take_of_length_le (Nat.le_refl _)];simp only[encCls,encL,List.append_assoc],HOW.out,HB.out⟩
      case measure=>simp[intOf];omega
  ·obtain rfl:j=cs.length:=by omega
   have HEQ:Hid (encCode cs=l1):=lh (by rw[HL1.out,List.take_of_length_le (Nat.le_refl _)];rfl)
   clear hlt hj
   go_wp2_with fail
   go_ret
   exact⟨_,rfl,by rw[HEQ.out];exact HOW.out,HB.out⟩
end
end
end Go.Proofs.YtmbnlccafcfbeaaDoor
