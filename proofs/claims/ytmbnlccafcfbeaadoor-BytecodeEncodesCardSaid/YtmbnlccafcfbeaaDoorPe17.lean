/- Parts of the proof: Ref41b. -/
import Derived.Test.YtmbnlccafcfbeaaDoorPeA
import Derived.Test.YtmbnlccafcfbeaaDoorPe16
set_option linter.unusedVariables false
set_option linter.unusedSimpArgs false
set_option linter.unusedSectionVars false
set_option maxRecDepth 100000
namespace Go.Proofs.YtmbnlccafcfbeaaDoor
section
open Go.RowKit
attribute [local go_sem] Oper.semAt_some
/-- what a function of the reference leaves, as a link of a chain -/
theorem EncP.ap {B:Nat} {w:World} {V:Value} {l:List Int} (hB:B≤w.heap.size) {e:Ending} {w':World} (h:EncP w l e w'):ApP B w V l e w' :=
 let ⟨v,he,ho,hb⟩:=h
 ⟨v,he,own_base ho hB,Kp.of_below hb,fun q hq=>.inr (ho.lt q hq).1⟩
section
variable {w:World} {B c:Nat} {A:Option Addr} {l:List Int} {n:Int}
theorem RUint_ap (ho:w.ownsRow B 5 1 (.slice A l.length c) l.length (byts l)) (hB:B≤w.heap.size) (hn:P64 n) (hl:l.length≤4294967296):Calls Tryd.prog 38 #[.slice A l.length c,.int .u64 n] w (ApP B w (.slice A l.length c) (l++encU n)) :=
 (RUintZ_any (c:=c) (own_sl ho) hn hl).mono fun _ _ h=>h.ap hB
theorem RInt_ap (ho:w.ownsRow B 5 1 (.slice A l.length c) l.length (byts l)) (hB:B≤w.heap.size) (hn:I64 n) (hl:l.length≤4294967296):Calls Tryd.prog 42 #[.slice A l.length c,.int .i64 n] w (ApP B w (.slice A l.length c) (l++encI n)) :=
 (RInt_any (c:=c) (own_sl ho) hn hl).mono fun _ _ h=>h.ap hB
theorem RBool_ap {x:Bool} (ho:w.ownsRow B 5 1 (.slice A l.length c) l.length (byts l)) (hB:B≤w.heap.size) (hl:l.length≤4294967296):Calls Tryd.prog 39 #[.slice A l.length c,.bool x] w (ApP B w (.slice A l.length c) (l++encB x)) :=
 (RBool_any (c:=c) (own_sl ho) hl).mono fun _ _ h=>h.ap hB
theorem RString_ap {s:ByteArray} (ho:w.ownsRow B 5 1 (.slice A l.length c) l.length (byts l)) (hB:B≤w.heap.size) (hs:s.size≤4294967296) (hl:l.length≤4294967296):Calls Tryd.prog 40 #[.slice A l.length c,.string s] w (ApP B w (.slice A l.length c) (l++encS s)) :=
 (RString_any (c:=c) (own_sl ho) hs hl).mono fun _ _ h=>h.ap hB
theorem RTexts_ap {F:Option Addr} {fs:List ByteArray} {cf:Nat} (ho:w.ownsRow B 5 1 (.slice A l.length c) l.length (byts l)) (hB:B≤w.heap.size) (hF:Sl w 1 F fs.length (txtCells fs)) (hfc:fs.length≤cf) (hl:l.length+(encL encS fs).length≤4294967296):Calls Tryd.prog 41 #[.slice A l.length c,.slice F fs.length cf] w (ApP B w (.slice A l.length c) (l++encL encS fs)) :=
 (RTexts_any (c:=c) (own_sl ho) hF hfc hl).mono fun _ _ h=>h.ap hB
end
section
variable {w:World} {cs:List Cls} {A:Option Addr} {n c:Nat}
set_option maxHeartbeats 16000000 in
theorem REncode_any (hC:CodeR w cs A n c) (hE:(encCode cs).length≤2147483648):Calls Tryd.prog 14 #[.agg #[.slice A n c]] w (EncP w (encCode cs)):=by
 obtain⟨hcn,hnc,hnn,hsl⟩:=hC
 subst hcn
 have hn32:cs.length≤2147483648:=Nat.le_trans (encL_many encCls_pos cs) hE
 obtain⟨W,hW⟩:∃ W,W=w.alloc (.cells #[.slice A cs.length c] 24):=⟨_,rfl⟩
 obtain⟨gC,hgC⟩:∃ gC,gC=w.heap.size:=⟨_,rfl⟩
 have hb0:Below w.heap.size w W:=by rw[hW];exact(Below.refl _ _).alloc (Nat.le_refl _) _
 have hx0:Bk W gC 24 #[.slice A cs.length c]:=by rw[hW,hgC];exact Bk.new _ _ _
 have cU:=RUint_ap (w:=W) (B:=W.heap.size) (A:=none) (l:=[]) (c:=0) (n:=(cs.length:Int)) (World.ownsRow_nil _ _ _ _) (Nat.le_refl _) ⟨by omega,by omega⟩ (by simp)
 have hw0:IntKind.u64.wrap (cs.length:Int)=(cs.length:Int):=by rw[IntKind.wrap_u64];omega
 rw[List.nil_append] at cU
 have HB0:=lh hb0
 have HX0:=lh hx0
 have HSL:=lh (hsl.clss hb0)
 have HT:=lh hE
 have x0:W.cell? ⟨gC,0,none⟩=some (.slice A cs.length c):=hx0.cell 0
 have HCB:Hid (∀ wr,Below W.heap.size W wr→wr.cell? ⟨gC,0,none⟩=some (.slice A cs.length c)):=lh fun wr h=>((bcell h).1 _ _ hx0.lt).trans (hx0.cell 0)
 clear hsl hE hnn hb0 hx0
 go_enter Tryd.func14,Tryd.ntmps14
 go_upto_region 1 with fail
 rw[← hW,← hgC]
 clear hW hgC
 go_wp2_with fail
 refine cU.mono ?_
 rintro e w1 ⟨v1,rfl,ho1,hk1,hv1⟩
 have HO1:=lh ho1
 have HB1:Hid (Below W.heap.size W w1):=lh (hk1.toBelow (Below.refl _ _) (Nat.le_refl _) fun q hq=>by cases hq)
 obtain⟨A0,c0,rfl,hc0⟩:=own_shape ho1
 clear cU ho1 hk1 hv1 hc0 x0
 go_wp2_with fail
 go_loopw [3,4] (fun v ix wr=>∃ (j:Nat) (l1:List Int),ix=.int .i64 (j:Int)∧j≤cs.length∧l1=encU cs.length++(cs.take j).flatMap encCls∧wr.ownsRow W.heap.size 5 1 v l1.length (byts l1)∧Below W.heap.size W wr) (fun _ ix _=>cs.length - (intOf ix).toNat)
 case atStart=>exact⟨0,encU cs.length,rfl,Nat.zero_le _,by simp,HO1.out,HB1.out⟩
 case round =>
  clear HO1 HB1
  obtain⟨j,l1,rfl,hj,hl1,hown,hbl⟩:=hrel
  have HOW:=lh hown
  have HB:=lh hbl
  have HL1:=lh hl1
  obtain⟨A1,c1,rfl,hc1⟩:=own_shape hown
  have x0:=HCB.out wr hbl
  clear hown hbl hl1
  by_cases hlt:j < cs.length
  ·obtain⟨bb,oo,x,r,hA,hbb,hx,hr,⟨hxok,F,cf,M,cm,rfl,hfc,hF,hmc,hM⟩,hcell⟩:=HSL.out.get hlt
   have hle:=encL_le encCls hx
   have htk:=encL_take encCls hx
   have e0:wr.cell? ⟨bb,oo+j*4,none⟩=some (.string x.nm):=((bcell HB.out).1 _ _ hbb).trans (hcell 0 _ rfl)
   have e1:wr.cell? ⟨bb,oo+j*4+1,none⟩=some (.bool x.actor):=((bcell HB.out).1 _ _ hbb).trans (hcell 1 _ rfl)
   have e2:wr.cell? ⟨bb,oo+j*4+2,none⟩=some (.slice F x.fields.length cf):=((bcell HB.out).1 _ _ hbb).trans (hcell 2 _ rfl)
   have e3:wr.cell? ⟨bb,oo+j*4+3,none⟩=some (.slice M x.ms.length cm):=((bcell HB.out).1 _ _ hbb).trans (hcell 3 _ rfl)
   subst hA
   have hjc:j < c:=by omega
   have hxe:(encCls x).length=(encS x.nm).length+(encB x.actor).length+(encL encS x.fields).length+(encL encMth x.ms).length:=by unfold encCls;simp only[List.length_append]
   have hl1:l1.length=(encU cs.length).length+((cs.take j).flatMap encCls).length:=by rw[HL1.out,List.length_append]
   have hsn:=encS_len x.nm
   have hbl1:(encB x.actor).length=1:=by cases x.actor <;> rfl
   have htot:l1.length+(encCls x).length≤2147483648:=by have:=HT.out;unfold encCode at this;omega
   have hms:=encL_many encMth_pos x.ms
   obtain⟨la,hla⟩:∃ la,la=l1++encS x.nm:=⟨_,rfl⟩
   obtain⟨lb,hlb⟩:∃ lb,lb=la++encB x.actor:=⟨_,rfl⟩
   obtain⟨l2,hl2⟩:∃ l2,l2=lb++encL encS x.fields:=⟨_,rfl⟩
   have hlal:la.length=l1.length+(encS x.nm).length:=by rw[hla,List.length_append]
   have hlbl:lb.length=la.length+(encB x.actor).length:=by rw[hlb,List.length_append]
   have hl2l:l2.length+(encL encMth x.ms).length≤2147483648:=by rw[hl2,List.length_append];omega
   have HLB:Hid (l1.length≤4294967296∧la.length≤4294967296∧lb.length+(encL encS x.fields).length≤4294967296∧x.nm.size≤4294967296):=lh ⟨by omega,by omega,by omega,by omega⟩
   have HLA:=lh (And.intro hla hlb)
   have HL2:=lh (And.intro hl2 hl2l)
   have HTK:=lh htk
   have HF:=lh hF
   have HM:=lh hM
   have HFB:Hid (∀ b o,F=some ⟨b,o,none⟩→x.fields.length≠0→b < W.heap.size):=lh fun b o e hn=>by
    obtain⟨b',o',e',h',_⟩:=hF.2.resolve_left hn
    rw[e] at e'
    cases e'
    exact h'
   have hxms:x.ms.length≤2147483648:=by omega
   have hwm:IntKind.u64.wrap (x.ms.length:Int)=(x.ms.length:Int):=by rw[IntKind.wrap_u64];omega
   clear hx hr hxok hF hM hcell hle htk hbb hxe hl1 hsn hbl1 htot hms hl2 hl2l hla hlb hlal hlbl
   go_upto_region 6 with fail
   obtain⟨wA,hwA⟩:∃ wA,wA=wr.alloc (.cells #[.string x.nm,.bool x.actor,.slice F x.fields.length cf,.slice M x.ms.length cm] 48):=⟨_,rfl⟩
   obtain⟨g5,hg5⟩:∃ g5,g5=wr.heap.size:=⟨_,rfl⟩
   have HK5:Hid (Bk wA g5 48 #[.string x.nm,.bool x.actor,.slice F x.fields.length cf,.slice M x.ms.length cm]):=lh (by rw[hwA,hg5];exact Bk.new _ _ _)
   have hbA:Below wr.heap.size wr wA:=by rw[hwA];exact(Below.refl _ _).alloc (Nat.le_refl _) _
   have HBA:=lh (HB.out.trans (hbA.mono HB.out.size))
   have HOA:=lh (own_local HOW.out (w':=wA) fun k hk=>hbA.block k (HOW.out.lt k hk).2)
   rw[← hwA,← hg5]
   have hBsz:=HBA.out.size
   clear hwA hg5 hbA HOW HB e0 e1 e2 e3 x0
   refine wp_chain 8 7 (fun i=>([[],[],[1],[0,2],[],[4],[3,5],[6]]:List (List Nat)).getD i []) 5 W.heap.size ((.slice A1 l1.length c1)) (fun i=>([true,false,false,true,false,false,true,true]:List Bool).getD i false) (fun i=>([byts (l1),[],[],byts (la),[],[],byts (lb),byts (lb)]:List (List Value)).getD i []) (fun i=>([none,none,none,some 0,none,none,some 3,some 6]:List (Option Nat)).getD i none) (fun i=>([undef,.pointer (some ⟨g5,0,none⟩),.string x.nm,undef,.pointer (some ⟨g5,1,none⟩),.bool x.actor,undef,undef]:List Value).getD i undef) rfl (by kernel_rfl) (by rfl) (by kernel_rfl) ?_ ?_ ?_ ?_ ?_
   ·intro i hi hr hp
    rcases (show i=0 ∨ i=1 ∨ i=2 ∨ i=3 ∨ i=4 ∨ i=5 ∨ i=6 ∨ i=7 by omega) with rfl | rfl | rfl | rfl | rfl | rfl | rfl | rfl <;> first | (cases hr;done) | (cases hp;done) | exact(show wA.ownsRow W.heap.size 5 1 (.slice A1 l1.length c1) (byts l1).length (byts l1) from by rw[byts_len];exact HOA.out)
   ·intro i hi o ho hr vs w1 hk hvs
    rcases (show i=0 ∨ i=1 ∨ i=2 ∨ i=3 ∨ i=4 ∨ i=5 ∨ i=6 ∨ i=7 by omega) with rfl | rfl | rfl | rfl | rfl | rfl | rfl | rfl <;> cases ho
    ·cases hr
    ·change Sem.run _ (execOp (Act.eval (frm _ _ _ [])) _) _=_
     simp only[frm]
     clear hvs
     go_simp
    ·have h1:vs 1=.pointer (some ⟨g5,0,none⟩):=hvs 1 (by decide) rfl
     change Sem.run _ (execOp (Act.eval (Act.put (frm _ _ _ []) (some 27) (vs 1))) _) _=_
     simp only[frm,h1]
     have hbk:=HK5.out.kp hk (row_ne HOA.out HK5.out (by decide))
     have c0:w1.cell? ⟨g5,0,none⟩=some (.string x.nm):=hbk.cell 0
     clear hbk
     clear hvs
     go_simp
    ·cases hr
    ·change Sem.run _ (execOp (Act.eval (frm _ _ _ [])) _) _=_
     simp only[frm]
     clear hvs
     go_simp
    ·have h4:vs 4=.pointer (some ⟨g5,1,none⟩):=hvs 4 (by decide) rfl
     change Sem.run _ (execOp (Act.eval (Act.put (frm _ _ _ []) (some 30) (vs 4))) _) _=_
     simp only[frm,h4]
     have hbk:=HK5.out.kp hk (row_ne HOA.out HK5.out (by decide))
     have c0:w1.cell? ⟨g5,1,none⟩=some (.bool x.actor):=hbk.cell 1
     clear hbk
     clear hvs
     go_simp
    ·cases hr
    ·cases hr
   ·intro i hi o ho hr hp vs w1
    rcases (show i=0 ∨ i=1 ∨ i=2 ∨ i=3 ∨ i=4 ∨ i=5 ∨ i=6 ∨ i=7 by omega) with rfl | rfl | rfl | rfl | rfl | rfl | rfl | rfl <;> cases ho
    ·change Sem.run _ (execOp (Act.eval (frm _ _ _ [])) _) _=_
     simp only[frm]
     go_simp
    ·cases hr
    ·cases hr
    ·cases hp
    ·cases hr
    ·cases hr
    ·cases hp
    ·cases hp
   ·intro i hi o ho p hp vs w1 hk hvs hrow hsub
    rcases (show i=0 ∨ i=1 ∨ i=2 ∨ i=3 ∨ i=4 ∨ i=5 ∨ i=6 ∨ i=7 by omega) with rfl | rfl | rfl | rfl | rfl | rfl | rfl | rfl <;> cases ho
    ·cases hp
    ·cases hp
    ·cases hp
    ·cases hp
     replace hrow:=row_byts (show w1.ownsRow W.heap.size 5 1 (vs 0) (byts (l1)).length (byts (l1)) from hrow)
     show Made _ (fun v w'=>w'.ownsRow W.heap.size 5 1 v (byts (la)).length (byts (la))∧_) _
     obtain⟨A9,c9,hA1,hc9⟩:=own_shape hrow
     have h2:vs 2=.string x.nm:=hvs 2 (by decide) rfl
     change Made _ _ (Sem.run _ (execOp (Act.eval (Act.put (Act.put (frm _ _ _ []) (some 28) (vs 2)) (some 26) (vs 0))) _) _)
     simp only[frm,hA1,h2]
     rw[hA1] at hrow hsub
     clear hA1 hvs h2
     have cM:=RString_ap (s:=x.nm) hrow (Nat.le_trans hBsz hk.size) HLB.out.2.2.2 HLB.out.1
     rw[← HLA.out.1] at cM
     clear hrow hsub
     go_simp
     exact ap_chain cM
    ·cases hp
    ·cases hp
    ·cases hp
     replace hrow:=row_byts (show w1.ownsRow W.heap.size 5 1 (vs 3) (byts (la)).length (byts (la)) from hrow)
     show Made _ (fun v w'=>w'.ownsRow W.heap.size 5 1 v (byts (lb)).length (byts (lb))∧_) _
     obtain⟨A9,c9,hA1,hc9⟩:=own_shape hrow
     have h5:vs 5=.bool x.actor:=hvs 5 (by decide) rfl
     change Made _ _ (Sem.run _ (execOp (Act.eval (Act.put (Act.put (frm _ _ _ []) (some 31) (vs 5)) (some 29) (vs 3))) _) _)
     simp only[frm,hA1,h5]
     rw[hA1] at hrow hsub
     clear hA1 hvs h5
     have cM:=RBool_ap (x:=x.actor) hrow (Nat.le_trans hBsz hk.size) HLB.out.2.1
     rw[← HLA.out.2] at cM
     clear hrow hsub
     go_simp
     exact ap_chain cM
    ·cases hp
     replace hrow:=row_byts (show w1.ownsRow W.heap.size 5 1 (vs 6) (byts (lb)).length (byts (lb)) from hrow)
     show Made _ (fun v w'=>w'.ownsRow W.heap.size 5 1 v (byts (lb)).length (byts (lb))∧_) _
     obtain⟨A9,c9,hA1,hc9⟩:=own_shape hrow
     change Made _ _ (Sem.run _ (execOp (Act.eval (Act.put (frm _ _ _ []) (some 32) (vs 6))) _) _)
     simp only[frm,hA1]
     rw[hA1] at hrow hsub
     clear hA1 hvs
     go_simp
     exact made_ok ⟨by rw[byts_len];exact hrow,Kp.refl _ _,fun q hq=>.inl hq⟩
   ·intro vs w5 hk hvs hrow hsub
    have h1:vs 1=.pointer (some ⟨g5,0,none⟩):=hvs 1 (by decide) rfl
    have h2:vs 2=.string x.nm:=hvs 2 (by decide) rfl
    have h4:vs 4=.pointer (some ⟨g5,1,none⟩):=hvs 4 (by decide) rfl
    have h5:vs 5=.bool x.actor:=hvs 5 (by decide) rfl
    change wpList _ _ _ [] (Act.put (Act.put (Act.put (Act.put (Act.put (Act.put (Act.put (Act.put (frm _ _ _ []) (some 3) (vs 7)) (some 32) (vs 6)) (some 31) (vs 5)) (some 30) (vs 4)) (some 29) (vs 3)) (some 28) (vs 2)) (some 27) (vs 1)) (some 26) (vs 0)) _
    simp only[frm,h1,h2,h4,h5]
    obtain⟨vt,hvt⟩:∃ vt,vt=vs 7:=⟨_,rfl⟩
    generalize vs 0=vq0
    generalize vs 3=vq3
    generalize vs 6=vq6
    have hrow2:w5.ownsRow W.heap.size 5 1 vt (byts (lb)).length (byts (lb)):=by rw[hvt];exact hrow
    have hsub2:Sub ((.slice A1 l1.length c1)) wA vt:=by rw[hvt];exact hsub
    rw[← hvt]
    clear hrow hsub hvs hvt h1 h2 h4 h5
    have HB5:Hid (Below W.heap.size W w5):=lh (hk.toBelow HBA.out hBsz fun q hq=>(HOA.out.lt q hq).1)
    have hk5:=HK5.out.kp hk (row_ne HOA.out HK5.out (by decide))
    have HO5:Hid (w5.ownsRow W.heap.size 5 1 vt lb.length (byts lb)):=lh (row_byts hrow2)
    have a2:w5.cell? ⟨g5,2,none⟩=some (.slice F x.fields.length cf):=hk5.cell 2
    have HK5':=lh hk5
    clear hrow2 hsub2 hk hk5 HOA HBA HK5 hBsz
    obtain⟨A9,c9,rfl,hc9⟩:=own_shape HO5.out
    have cT:=RTexts_ap HO5.out HB5.out.size (HF.out.below HB5.out) hfc HLB.out.2.2.1
    rw[← HL2.out.1] at cT
    go_wp2_with fail
    refine cT.mono ?_
    rintro e w5b ⟨v5b,rfl,ho5b,hk5b,hv5b⟩
    have HO5b:=lh ho5b
    have HB5b:Hid (Below W.heap.size W w5b):=lh (hk5b.toBelow HB5.out HB5.out.size fun q hq=>(HO5.out.lt q hq).1)
    have hk5:=HK5'.out.kp hk5b (row_ne HO5.out HK5'.out (by decide))
    have a3:w5b.cell? ⟨g5,3,none⟩=some (.slice M x.ms.length cm):=hk5.cell 3
    have HK5b:=lh hk5
    obtain⟨A2,c2,rfl,hc2⟩:=own_shape ho5b
    clear cT ho5b hk5b hv5b hk5 HK5' HO5 HB5 a2
    have cU:=RUint_ap HO5b.out HB5b.out.size (n:=(x.ms.length:Int)) ⟨by omega,by omega⟩ (by have:=HL2.out.2;omega)
    obtain⟨l3,hl3⟩:∃ l3,l3=l2++encU x.ms.length:=⟨_,rfl⟩
    rw[← hl3] at cU
    have HL3:=lh hl3
    clear hl3
    go_wp2_with fail
    refine cU.mono ?_
    rintro e w6 ⟨v6,rfl,ho6,hk6,hv6⟩
    have HO6:=lh ho6
    have HB6:Hid (Below W.heap.size W w6):=lh (hk6.toBelow HB5b.out HB5b.out.size fun q hq=>(HO5b.out.lt q hq).1)
    have hk56:=HK5b.out.kp hk6 (row_ne HO5b.out HK5b.out (by decide))
    obtain⟨KC,hKC⟩:∃ KC:Array Value,KC=#[.string x.nm,.bool x.actor,.slice F x.fields.length cf,.slice M x.ms.length cm]:=⟨_,rfl⟩
    have HKC3:Hid (∀ w',Bk w' g5 48 KC→w'.cell? ⟨g5,3,none⟩=some (.slice M x.ms.length cm)):=lh fun w' h=>by rw[hKC] at h;exact h.cell 3
    rw[← hKC] at hk56
    have HK56:=lh hk56
    clear hk56 hKC
    obtain⟨A3,c3,rfl,hc3⟩:=own_shape ho6
    clear cU ho6 hk6 hv6 HK5b HO5b HB5b a3
    go_wp2_with fail
    go_loopw [3,6] (fun v ix wr=>∃ (i:Nat) (l4:List Int),ix=.int .i64 (i:Int)∧i≤x.ms.length∧l4=l3++(x.ms.take i).flatMap encMth∧wr.ownsRow W.heap.size 5 1 v l4.length (byts l4)∧Below W.heap.size W wr∧Bk wr g5 48 KC) (fun _ ix _=>x.ms.length - (intOf ix).toNat)
    case atStart=>exact⟨0,l3,rfl,Nat.zero_le _,by simp,HO6.out,HB6.out,HK56.out⟩
    case round =>
     clear HO6 HB6 HK56
     obtain⟨i,l4,rfl,hi,hl4,hown,hbl,hk5⟩:=hrel
     have HK5:=lh hk5
     have a3:=HKC3.out wr hk5
     have HOW:=lh hown
     have HB:=lh hbl
     have HL4:=lh hl4
     obtain⟨A4,c4,rfl,hc4⟩:=own_shape hown
     clear hown hbl hl4 hk5
     by_cases hlt2:i < x.ms.length
     ·obtain⟨b2,o2,m,r2,hA2,hb2,hm,hr2,⟨hmok,C,cc,N,cn,rfl,hcc,hCs,hcn,hNs⟩,hcell2⟩:=HM.out.get hlt2
      have hle:=encL_le encMth hm
      have htk:=encL_take encMth hm
      have e0:wr.cell? ⟨b2,o2+i*5,none⟩=some (.string m.nm):=((bcell HB.out).1 _ _ hb2).trans (hcell2 0 _ rfl)
      have e1:wr.cell? ⟨b2,o2+i*5+1,none⟩=some (.int .i64 m.p):=((bcell HB.out).1 _ _ hb2).trans (hcell2 1 _ rfl)
      have e2:wr.cell? ⟨b2,o2+i*5+2,none⟩=some (.int .i64 m.l):=((bcell HB.out).1 _ _ hb2).trans (hcell2 2 _ rfl)
      have e3:wr.cell? ⟨b2,o2+i*5+3,none⟩=some (.slice C m.code.length cc):=((bcell HB.out).1 _ _ hb2).trans (hcell2 3 _ rfl)
      have e4:wr.cell? ⟨b2,o2+i*5+4,none⟩=some (.slice N m.names.length cn):=((bcell HB.out).1 _ _ hb2).trans (hcell2 4 _ rfl)
      subst hA2
      have hic:i < cm:=by omega
      have hme:(encMth m).length=(encS m.nm).length+(encI m.p).length+(encI m.l).length+(encL encIns m.code).length+(encL encS m.names).length:=by unfold encMth;simp only[List.length_append]
      have hl4:l4.length=l2.length+(encU x.ms.length).length+((x.ms.take i).flatMap encMth).length:=by rw[HL4.out,HL3.out,List.length_append,List.length_append]
      have hsn:=encS_len m.nm
      have htot:l4.length+(encMth m).length≤2147483648:=by have:=HL2.out.2;omega
      have hcs:=encL_many encIns_pos m.code
      have hns:=encL_many encS_pos m.names
      obtain⟨la4,hla⟩:∃ la4,la4=l4++encS m.nm:=⟨_,rfl⟩
      obtain⟨lb4,hlb⟩:∃ lb4,lb4=la4++encI m.p:=⟨_,rfl⟩
      obtain⟨l5,hl5⟩:∃ l5,l5=lb4++encI m.l:=⟨_,rfl⟩
      have hlal:la4.length=l4.length+(encS m.nm).length:=by rw[hla,List.length_append]
      have hlbl:lb4.length=la4.length+(encI m.p).length:=by rw[hlb,List.length_append]
      have hl5l:l5.length+(encL encIns m.code).length+(encL encS m.names).length≤2147483648:=by rw[hl5,List.length_append];omega
      have HLB4:Hid (l4.length≤4294967296∧la4.length≤4294967296∧lb4.length≤4294967296∧m.nm.size≤4294967296):=lh ⟨by omega,by omega,by omega,by omega⟩
      have HLA4:=lh (And.intro hla hlb)
      have HL5:=lh (And.intro hl5 hl5l)
      have HTK4:=lh htk
      have HOK:=lh hmok
      have HCS:=lh hCs
      have HNS:=lh hNs
      have HNB:Hid (∀ b o,N=some ⟨b,o,none⟩→m.names.length≠0→b < W.heap.size):=lh fun b o e hn=>by
       obtain⟨b',o',e',h',_⟩:=hNs.2.resolve_left hn
       rw[e] at e'
       cases e'
       exact h'
      have hcode:m.code.length≤2147483648:=by omega
      have hwc:IntKind.u64.wrap (m.code.length:Int)=(m.code.length:Int):=by rw[IntKind.wrap_u64];omega
      clear hm hr2 hmok hCs hNs hcell2 hle htk hb2 hme hl4 hsn htot hcs hns hl5 hl5l hla hlb hlal hlbl
      go_upto_region 13 with fail
      obtain⟨wB,hwB⟩:∃ wB,wB=wr.alloc (.cells #[.string m.nm,.int .i64 m.p,.int .i64 m.l,.slice C m.code.length cc,.slice N m.names.length cn] 43):=⟨_,rfl⟩
      obtain⟨g7,hg7⟩:∃ g7,g7=wr.heap.size:=⟨_,rfl⟩
      have HK7:Hid (Bk wB g7 43 #[.string m.nm,.int .i64 m.p,.int .i64 m.l,.slice C m.code.length cc,.slice N m.names.length cn]):=lh (by rw[hwB,hg7];exact Bk.new _ _ _)
      have hbB:Below wr.heap.size wr wB:=by rw[hwB];exact(Below.refl _ _).alloc (Nat.le_refl _) _
      have HK5B:=lh (HK5.out.below hbB HK5.out.lt)
      have HBB:=lh (HB.out.trans (hbB.mono HB.out.size))
      have HOB:=lh (own_local HOW.out (w':=wB) fun k hk=>hbB.block k (HOW.out.lt k hk).2)
      rw[← hwB,← hg7]
      have hBsz:=HBB.out.size
      clear hwB hg7 hbB HOW HB HK5 e0 e1 e2 e3 e4 a3
      refine wp_chain 11 10 (fun i=>([[],[],[1],[0,2],[],[4],[3,5],[],[7],[6,8],[9]]:List (List Nat)).getD i []) 5 W.heap.size ((.slice A4 l4.length c4)) (fun i=>([true,false,false,true,false,false,true,false,false,true,true]:List Bool).getD i false) (fun i=>([byts (l4),[],[],byts (la4),[],[],byts (lb4),[],[],byts (l5),byts (l5)]:List (List Value)).getD i []) (fun i=>([none,none,none,some 0,none,none,some 3,none,none,some 6,some 9]:List (Option Nat)).getD i none) (fun i=>([undef,.pointer (some ⟨g7,0,none⟩),.string m.nm,undef,.pointer (some ⟨g7,1,none⟩),.int .i64 m.p,undef,.pointer (some ⟨g7,2,none⟩),.int .i64 m.l,undef,undef]:List Value).getD i undef) rfl (by kernel_rfl) (by rfl) (by kernel_rfl) ?_ ?_ ?_ ?_ ?_
      ·intro i hi hr hp
       rcases (show i=0 ∨ i=1 ∨ i=2 ∨ i=3 ∨ i=4 ∨ i=5 ∨ i=6 ∨ i=7 ∨ i=8 ∨ i=9 ∨ i=10 by omega) with rfl | rfl | rfl | rfl | rfl | rfl | rfl | rfl | rfl | rfl | rfl <;> first | (cases hr;done) | (cases hp;done) | exact(show wB.ownsRow W.heap.size 5 1 (.slice A4 l4.length c4) (byts l4).length (byts l4) from by rw[byts_len];exact HOB.out)
      ·intro i hi o ho hr vs w1 hk hvs
       rcases (show i=0 ∨ i=1 ∨ i=2 ∨ i=3 ∨ i=4 ∨ i=5 ∨ i=6 ∨ i=7 ∨ i=8 ∨ i=9 ∨ i=10 by omega) with rfl | rfl | rfl | rfl | rfl | rfl | rfl | rfl | rfl | rfl | rfl <;> cases ho
       ·cases hr
       ·change Sem.run _ (execOp (Act.eval (frm _ _ _ [])) _) _=_
        simp only[frm]
        clear hvs
        go_simp
       ·have h1:vs 1=.pointer (some ⟨g7,0,none⟩):=hvs 1 (by decide) rfl
        change Sem.run _ (execOp (Act.eval (Act.put (frm _ _ _ []) (some 56) (vs 1))) _) _=_
        simp only[frm,h1]
        have hbk:=HK7.out.kp hk (row_ne HOB.out HK7.out (by decide))
        have c0:w1.cell? ⟨g7,0,none⟩=some (.string m.nm):=hbk.cell 0
        clear hbk
        clear hvs
        go_simp
       ·cases hr
       ·change Sem.run _ (execOp (Act.eval (frm _ _ _ [])) _) _=_
        simp only[frm]
        clear hvs
        go_simp
       ·have h4:vs 4=.pointer (some ⟨g7,1,none⟩):=hvs 4 (by decide) rfl
        change Sem.run _ (execOp (Act.eval (Act.put (frm _ _ _ []) (some 59) (vs 4))) _) _=_
        simp only[frm,h4]
        have hbk:=HK7.out.kp hk (row_ne HOB.out HK7.out (by decide))
        have c0:w1.cell? ⟨g7,1,none⟩=some (.int .i64 m.p):=hbk.cell 1
        clear hbk
        clear hvs
        go_simp
       ·cases hr
       ·change Sem.run _ (execOp (Act.eval (frm _ _ _ [])) _) _=_
        simp only[frm]
        clear hvs
        go_simp
       ·have h7:vs 7=.pointer (some ⟨g7,2,none⟩):=hvs 7 (by decide) rfl
        change Sem.run _ (execOp (Act.eval (Act.put (frm _ _ _ []) (some 62) (vs 7))) _) _=_
        simp only[frm,h7]
        have hbk:=HK7.out.kp hk (row_ne HOB.out HK7.out (by decide))
        have c0:w1.cell? ⟨g7,2,none⟩=some (.int .i64 m.l):=hbk.cell 2
        clear hbk
        clear hvs
        go_simp
       ·cases hr
       ·cases hr
      ·intro i hi o ho hr hp vs w1
       rcases (show i=0 ∨ i=1 ∨ i=2 ∨ i=3 ∨ i=4 ∨ i=5 ∨ i=6 ∨ i=7 ∨ i=8 ∨ i=9 ∨ i=10 by omega) with rfl | rfl | rfl | rfl | rfl | rfl | rfl | rfl | rfl | rfl | rfl <;> cases ho
       ·change Sem.run _ (execOp (Act.eval (frm _ _ _ [])) _) _=_
        simp only[frm]
        go_simp
       ·cases hr
       ·cases hr
       ·cases hp
       ·cases hr
       ·cases hr
       ·cases hp
       ·cases hr
       ·cases hr
       ·cases hp
       ·cases hp
      ·intro i hi o ho p hp vs w1 hk hvs hrow hsub
       rcases (show i=0 ∨ i=1 ∨ i=2 ∨ i=3 ∨ i=4 ∨ i=5 ∨ i=6 ∨ i=7 ∨ i=8 ∨ i=9 ∨ i=10 by omega) with rfl | rfl | rfl | rfl | rfl | rfl | rfl | rfl | rfl | rfl | rfl <;> cases ho
       ·cases hp
       ·cases hp
       ·cases hp
       ·cases hp
        replace hrow:=row_byts (show w1.ownsRow W.heap.size 5 1 (vs 0) (byts (l4)).length (byts (l4)) from hrow)
        show Made _ (fun v w'=>w'.ownsRow W.heap.size 5 1 v (byts (la4)).length (byts (la4))∧_) _
        obtain⟨A9,c9,hA1,hc9⟩:=own_shape hrow
        have h2:vs 2=.string m.nm:=hvs 2 (by decide) rfl
        change Made _ _ (Sem.run _ (execOp (Act.eval (Act.put (Act.put (frm _ _ _ []) (some 57) (vs 2)) (some 55) (vs 0))) _) _)
        simp only[frm,hA1,h2]
        rw[hA1] at hrow hsub
        clear hA1 hvs h2
        have cM:=RString_ap (s:=m.nm) hrow (Nat.le_trans hBsz hk.size) HLB4.out.2.2.2 HLB4.out.1
        rw[← HLA4.out.1] at cM
        clear hrow hsub
        go_simp
        exact ap_chain cM
       ·cases hp
       ·cases hp
       ·cases hp
        replace hrow:=row_byts (show w1.ownsRow W.heap.size 5 1 (vs 3) (byts (la4)).length (byts (la4)) from hrow)
        show Made _ (fun v w'=>w'.ownsRow W.heap.size 5 1 v (byts (lb4)).length (byts (lb4))∧_) _
        obtain⟨A9,c9,hA1,hc9⟩:=own_shape hrow
        have h5:vs 5=.int .i64 m.p:=hvs 5 (by decide) rfl
        change Made _ _ (Sem.run _ (execOp (Act.eval (Act.put (Act.put (frm _ _ _ []) (some 60) (vs 5)) (some 58) (vs 3))) _) _)
        simp only[frm,hA1,h5]
        rw[hA1] at hrow hsub
        clear hA1 hvs h5
        have cM:=RInt_ap hrow (Nat.le_trans hBsz hk.size) (i64_wf HOK.out.p) HLB4.out.2.1
        rw[← HLA4.out.2] at cM
        clear hrow hsub
        go_simp
        exact ap_chain cM
       ·cases hp
       ·cases hp
       ·cases hp
        replace hrow:=row_byts (show w1.ownsRow W.heap.size 5 1 (vs 6) (byts (lb4)).length (byts (lb4)) from hrow)
        show Made _ (fun v w'=>w'.ownsRow W.heap.size 5 1 v (byts (l5)).length (byts (l5))∧_) _
        obtain⟨A9,c9,hA1,hc9⟩:=own_shape hrow
        have h8:vs 8=.int .i64 m.l:=hvs 8 (by decide) rfl
        change Made _ _ (Sem.run _ (execOp (Act.eval (Act.put (Act.put (frm _ _ _ []) (some 63) (vs 8)) (some 61) (vs 6))) _) _)
        simp only[frm,hA1,h8]
        rw[hA1] at hrow hsub
        clear hA1 hvs h8
        have cM:=RInt_ap hrow (Nat.le_trans hBsz hk.size) (i64_wf HOK.out.l) HLB4.out.2.2.1
        rw[← HL5.out.1] at cM
        clear hrow hsub
        go_simp
        exact ap_chain cM
       ·cases hp
        replace hrow:=row_byts (show w1.ownsRow W.heap.size 5 1 (vs 9) (byts (l5)).length (byts (l5)) from hrow)
        show Made _ (fun v w'=>w'.ownsRow W.heap.size 5 1 v (byts (l5)).length (byts (l5))∧_) _
        obtain⟨A9,c9,hA1,hc9⟩:=own_shape hrow
        change Made _ _ (Sem.run _ (execOp (Act.eval (Act.put (frm _ _ _ []) (some 64) (vs 9))) _) _)
        simp only[frm,hA1]
        rw[hA1] at hrow hsub
        clear hA1 hvs
        go_simp
        exact made_ok ⟨by rw[byts_len];exact hrow,Kp.refl _ _,fun q hq=>.inl hq⟩
      ·intro vs w5 hk hvs hrow hsub
       have h1:vs 1=.pointer (some ⟨g7,0,none⟩):=hvs 1 (by decide) rfl
       have h2:vs 2=.string m.nm:=hvs 2 (by decide) rfl
       have h4:vs 4=.pointer (some ⟨g7,1,none⟩):=hvs 4 (by decide) rfl
       have h5:vs 5=.int .i64 m.p:=hvs 5 (by decide) rfl
       have h7:vs 7=.pointer (some ⟨g7,2,none⟩):=hvs 7 (by decide) rfl
       have h8:vs 8=.int .i64 m.l:=hvs 8 (by decide) rfl
       change wpList _ _ _ [] (Act.put (Act.put (Act.put (Act.put (Act.put (Act.put (Act.put (Act.put (Act.put (Act.put (Act.put (frm _ _ _ []) (some 3) (vs 10)) (some 64) (vs 9)) (some 63) (vs 8)) (some 62) (vs 7)) (some 61) (vs 6)) (some 60) (vs 5)) (some 59) (vs 4)) (some 58) (vs 3)) (some 57) (vs 2)) (some 56) (vs 1)) (some 55) (vs 0)) _
       simp only[frm,h1,h2,h4,h5,h7,h8]
       obtain⟨vt,hvt⟩:∃ vt,vt=vs 10:=⟨_,rfl⟩
       generalize vs 0=vq0
       generalize vs 3=vq3
       generalize vs 6=vq6
       generalize vs 9=vq9
       have hrow2:w5.ownsRow W.heap.size 5 1 vt (byts (l5)).length (byts (l5)):=by rw[hvt];exact hrow
       have hsub2:Sub ((.slice A4 l4.length c4)) wB vt:=by rw[hvt];exact hsub
       rw[← hvt]
       clear hrow hsub hvs hvt h1 h2 h4 h5 h7 h8
       have HB5:Hid (Below W.heap.size W w5):=lh (hk.toBelow HBB.out hBsz fun q hq=>(HOB.out.lt q hq).1)
       have hk7:=HK7.out.kp hk (row_ne HOB.out HK7.out (by decide))
       have HO5:Hid (w5.ownsRow W.heap.size 5 1 vt l5.length (byts l5)):=lh (row_byts hrow2)
       have a3:w5.cell? ⟨g7,3,none⟩=some (.slice C m.code.length cc):=hk7.cell 3
       have HK7':=lh hk7
       have HK55:=lh (HK5B.out.kp hk (row_ne HOB.out HK5B.out (by decide)))
       clear hrow2 hsub2 hk hk7 HOB HBB HK7 HK5B hBsz
       obtain⟨A5,c5,rfl,hc5⟩:=own_shape HO5.out
       have cU:=RUint_ap HO5.out HB5.out.size (n:=(m.code.length:Int)) ⟨by omega,by omega⟩ (by have:=HL5.out.2;omega)
       obtain⟨l6,hl6⟩:∃ l6,l6=l5++encU m.code.length:=⟨_,rfl⟩
       rw[← hl6] at cU
       have HL6:=lh hl6
       clear hl6
       go_wp2_with fail
       refine cU.mono ?_
       rintro e w6_ ⟨v6,rfl,ho6,hk6,hv6⟩
       have HO6:=lh ho6
       have HB6:Hid (Below W.heap.size W w6_):=lh (hk6.toBelow HB5.out HB5.out.size fun q hq=>(HO5.out.lt q hq).1)
       have hk7:=HK7'.out.kp hk6 (row_ne HO5.out HK7'.out (by decide))
       obtain⟨KM,hKM⟩:∃ KM:Array Value,KM=#[.string m.nm,.int .i64 m.p,.int .i64 m.l,.slice C m.code.length cc,.slice N m.names.length cn]:=⟨_,rfl⟩
       have HKM3:Hid (∀ w',Bk w' g7 43 KM→w'.cell? ⟨g7,3,none⟩=some (.slice C m.code.length cc)∧w'.cell? ⟨g7,4,none⟩=some (.slice N m.names.length cn)):=lh fun w' h=>by rw[hKM] at h;exact⟨h.cell 3,h.cell 4⟩
       rw[← hKM] at hk7
       have HK76:=lh (And.intro hk7 (HK55.out.kp hk6 (row_ne HO5.out HK55.out (by decide))))
       obtain⟨A6,c6,rfl,hc6⟩:=own_shape ho6
       clear cU ho6 hk6 hv6 hk7 HK7' HO5 HB5 HK55 a3 hKM
       go_wp2_with fail
       go_loopw [3,8] (fun v ix wr=>∃ (q:Nat) (l7:List Int),ix=.int .i64 (q:Int)∧q≤m.code.length∧l7=l6++(m.code.take q).flatMap encIns∧wr.ownsRow W.heap.size 5 1 v l7.length (byts l7)∧Below W.heap.size W wr∧Bk wr g7 43 KM∧Bk wr g5 48 KC) (fun _ ix _=>m.code.length - (intOf ix).toNat)
       case atStart=>exact⟨0,l6,rfl,Nat.zero_le _,by simp,HO6.out,HB6.out,HK76.out.1,HK76.out.2⟩
       case round =>
        clear HO6 HB6 HK76
        obtain⟨q,l7,rfl,hq,hl7,hown,hbl,hk7,hk5⟩:=hrel
        have a3:=(HKM3.out wr hk7).1
        have HK5:=lh hk5
        have HOW:=lh hown
        have HB:=lh hbl
        have HL7:=lh hl7
        have HK7:=lh hk7
        obtain⟨A7,c7,rfl,hc7⟩:=own_shape hown
        clear hown hbl hl7 hk7 hk5
        by_cases hlt3:q < m.code.length
        ·have hx:m.code[q]?=some m.code[q]:=List.getElem?_eq_getElem hlt3
         have hwf:=HOK.out.code _ (List.mem_of_getElem? hx)
         have hle:=encL_le encIns hx
         have htk:=encL_take encIns hx
         have hcg:=codeCells_get _ _ _ hx
         obtain⟨b3,o3,hA3,hb3,hcc3⟩:=HCS.out.2.resolve_left (by omega)
         have hE3:∀ w1,Kp (fun k=>(Value.slice A7 l7.length c7).ownBlock=some k) wr w1→w1.cell? ⟨b3,o3+q*3,none⟩=some (.int .i64 m.code[q].1)∧w1.cell? ⟨b3,o3+q*3+1,none⟩=some (.int .i64 m.code[q].2.1)∧w1.cell? ⟨b3,o3+q*3+2,none⟩=some (.int .i64 m.code[q].2.2):=fun w1 hk=>by
          have hb:Below W.heap.size W w1:=hk.toBelow HB.out HB.out.size fun q hq=>(HOW.out.lt q hq).1
          exact⟨((bcell hb).1 _ _ hb3).trans (hcc3 _ _ hcg.1),((bcell hb).1 _ _ hb3).trans (hcc3 _ _ hcg.2.1),((bcell hb).1 _ _ hb3).trans (hcc3 _ _ hcg.2.2)⟩
         subst hA3
         have hqc:q < cc:=by omega
         obtain⟨⟨y1,y2,y3⟩,hy⟩:∃ y:Ins,y=m.code[q]:=⟨_,rfl⟩
         rw[← hy] at hE3 hwf hle htk
         dsimp only at hE3 hwf
         have HE3:=lh hE3
         have hye:(encIns (y1,y2,y3)).length=(encI y1).length+(encI y2).length+(encI y3).length:=by unfold encIns;simp only[List.length_append]
         have hl7:l7.length=l5.length+(encU m.code.length).length+((m.code.take q).flatMap encIns).length:=by rw[HL7.out,HL6.out,List.length_append,List.length_append]
         have htot:l7.length+(encIns (y1,y2,y3)).length≤2147483648:=by have:=HL5.out.2;omega
         obtain⟨la7,hla⟩:∃ la7,la7=l7++encI y1:=⟨_,rfl⟩
         obtain⟨lb7,hlb⟩:∃ lb7,lb7=la7++encI y2:=⟨_,rfl⟩
         obtain⟨l8,hl8⟩:∃ l8,l8=lb7++encI y3:=⟨_,rfl⟩
         have hlal:la7.length=l7.length+(encI y1).length:=by rw[hla,List.length_append]
         have hlbl:lb7.length=la7.length+(encI y2).length:=by rw[hlb,List.length_append]
         have HLB7:Hid (l7.length≤4294967296∧la7.length≤4294967296∧lb7.length≤4294967296∧I64 y1∧I64 y2∧I64 y3):=lh ⟨by omega,by omega,by omega,i64_wf hwf.1,i64_wf hwf.2.1,i64_wf hwf.2.2⟩
         have HLA7:=lh (And.intro hla (And.intro hlb hl8))
         have HTK7:=lh htk
         clear hx hwf hle htk hcg hcc3 hb3 hy hye hl7 htot hla hlb hl8 hlal hlbl hE3
         go_upto_region 18 with fail
         have hBsz:=HB.out.size
         clear a3
         refine wp_chain 23 22 (fun i=>([[],[],[1],[],[2,3],[4],[5],[0,6],[],[8],[],[9,10],[11],[12],[7,13],[],[15],[],[16,17],[18],[19],[14,20],[21]]:List (List Nat)).getD i []) 5 W.heap.size ((.slice A7 l7.length c7)) (fun i=>([true,false,false,false,false,false,false,true,false,false,false,false,false,false,true,false,false,false,false,false,false,true,true]:List Bool).getD i false) (fun i=>([byts (l7),[],[],[],[],[],[],byts (la7),[],[],[],[],[],[],byts (lb7),[],[],[],[],[],[],byts (l8),byts (l8)]:List (List Value)).getD i []) (fun i=>([none,none,none,none,none,none,none,some 0,none,none,none,none,none,none,some 7,none,none,none,none,none,none,some 14,some 21]:List (Option Nat)).getD i none) (fun i=>([undef,.pointer (some ⟨g7,3,none⟩),.slice (some ⟨b3,o3,none⟩) m.code.length cc,.int .i64 (q:Int),.pointer (some ⟨b3,o3+q*3,none⟩),.pointer (some ⟨b3,o3+q*3,none⟩),.int .i64 y1,undef,.pointer (some ⟨g7,3,none⟩),.slice (some ⟨b3,o3,none⟩) m.code.length cc,.int .i64 (q:Int),.pointer (some ⟨b3,o3+q*3,none⟩),.pointer (some ⟨b3,o3+q*3+1,none⟩),.int .i64 y2,undef,.pointer (some ⟨g7,3,none⟩),.slice (some ⟨b3,o3,none⟩) m.code.length cc,.int .i64 (q:Int),.pointer (some ⟨b3,o3+q*3,none⟩),.pointer (some ⟨b3,o3+q*3+2,none⟩),.int .i64 y3,undef,undef]:List Value).getD i undef) rfl (by kernel_rfl) (by rfl) (by kernel_rfl) ?_ ?_ ?_ ?_ ?_
         ·intro i hi hr hp
          rcases (show i=0 ∨ i=1 ∨ i=2 ∨ i=3 ∨ i=4 ∨ i=5 ∨ i=6 ∨ i=7 ∨ i=8 ∨ i=9 ∨ i=10 ∨ i=11 ∨ i=12 ∨ i=13 ∨ i=14 ∨ i=15 ∨ i=16 ∨ i=17 ∨ i=18 ∨ i=19 ∨ i=20 ∨ i=21 ∨ i=22 by omega) with rfl | rfl | rfl | rfl | rfl | rfl | rfl | rfl | rfl | rfl | rfl | rfl | rfl | rfl | rfl | rfl | rfl | rfl | rfl | rfl | rfl | rfl | rfl <;> first | (cases hr;done) | (cases hp;done) | exact(show wr.ownsRow W.heap.size 5 1 (.slice A7 l7.length c7) (byts l7).length (byts l7) from by rw[byts_len];exact HOW.out)
         ·intro i hi o ho hr vs w1 hk hvs
          rcases (show i=0 ∨ i=1 ∨ i=2 ∨ i=3 ∨ i=4 ∨ i=5 ∨ i=6 ∨ i=7 ∨ i=8 ∨ i=9 ∨ i=10 ∨ i=11 ∨ i=12 ∨ i=13 ∨ i=14 ∨ i=15 ∨ i=16 ∨ i=17 ∨ i=18 ∨ i=19 ∨ i=20 ∨ i=21 ∨ i=22 by omega) with rfl | rfl | rfl | rfl | rfl | rfl | rfl | rfl | rfl | rfl | rfl | rfl | rfl | rfl | rfl | rfl | rfl | rfl | rfl | rfl | rfl | rfl | rfl <;> cases ho
          ·cases hr
          ·change Sem.run _ (execOp (Act.eval (frm _ _ _ [])) _) _=_
           simp only[frm]
           clear hvs
           go_simp
          ·have h1:vs 1=.pointer (some ⟨g7,3,none⟩):=hvs 1 (by decide) rfl
           change Sem.run _ (execOp (Act.eval (Act.put (frm _ _ _ []) (some 79) (vs 1))) _) _=_
           simp only[frm,h1]
           have c0:=(HKM3.out w1 (HK7.out.kp hk (row_ne HOW.out HK7.out (by decide)))).1
           clear hvs
           go_simp
          ·change Sem.run _ (execOp (Act.eval (frm _ _ _ [])) _) _=_
           simp only[frm]
           clear hvs
           go_simp
          ·have h2:vs 2=.slice (some ⟨b3,o3,none⟩) m.code.length cc:=hvs 2 (by decide) rfl
           have h3:vs 3=.int .i64 (q:Int):=hvs 3 (by decide) rfl
           change Sem.run _ (execOp (Act.eval (Act.put (Act.put (frm _ _ _ []) (some 81) (vs 3)) (some 80) (vs 2))) _) _=_
           simp only[frm,h2,h3]
           clear hvs
           go_simp
          ·have h4:vs 4=.pointer (some ⟨b3,o3+q*3,none⟩):=hvs 4 (by decide) rfl
           change Sem.run _ (execOp (Act.eval (Act.put (frm _ _ _ []) (some 82) (vs 4))) _) _=_
           simp only[frm,h4]
           clear hvs
           go_simp
          ·have h5:vs 5=.pointer (some ⟨b3,o3+q*3,none⟩):=hvs 5 (by decide) rfl
           change Sem.run _ (execOp (Act.eval (Act.put (frm _ _ _ []) (some 83) (vs 5))) _) _=_
           simp only[frm,h5]
           obtain⟨u0,u1,u2⟩:=HE3.out w1 hk
           clear hvs
           go_simp
          ·cases hr
          ·change Sem.run _ (execOp (Act.eval (frm _ _ _ [])) _) _=_
           simp only[frm]
           clear hvs
           go_simp
          ·have h8:vs 8=.pointer (some ⟨g7,3,none⟩):=hvs 8 (by decide) rfl
           change Sem.run _ (execOp (Act.eval (Act.put (frm _ _ _ []) (some 86) (vs 8))) _) _=_
           simp only[frm,h8]
           have c0:=(HKM3.out w1 (HK7.out.kp hk (row_ne HOW.out HK7.out (by decide)))).1
           clear hvs
           go_simp
          ·change Sem.run _ (execOp (Act.eval (frm _ _ _ [])) _) _=_
           simp only[frm]
           clear hvs
           go_simp
          ·have h9:vs 9=.slice (some ⟨b3,o3,none⟩) m.code.length cc:=hvs 9 (by decide) rfl
           have h10:vs 10=.int .i64 (q:Int):=hvs 10 (by decide) rfl
           change Sem.run _ (execOp (Act.eval (Act.put (Act.put (frm _ _ _ []) (some 88) (vs 10)) (some 87) (vs 9))) _) _=_
           simp only[frm,h9,h10]
           clear hvs
           go_simp
          ·have h11:vs 11=.pointer (some ⟨b3,o3+q*3,none⟩):=hvs 11 (by decide) rfl
           change Sem.run _ (execOp (Act.eval (Act.put (frm _ _ _ []) (some 89) (vs 11))) _) _=_
           simp only[frm,h11]
           clear hvs
           go_simp
          ·have h12:vs 12=.pointer (some ⟨b3,o3+q*3+1,none⟩):=hvs 12 (by decide) rfl
           change Sem.run _ (execOp (Act.eval (Act.put (frm _ _ _ []) (some 90) (vs 12))) _) _=_
           simp only[frm,h12]
           obtain⟨u0,u1,u2⟩:=HE3.out w1 hk
           clear hvs
           go_simp
          ·cases hr
          ·change Sem.run _ (execOp (Act.eval (frm _ _ _ [])) _) _=_
           simp only[frm]
           clear hvs
           go_simp
          ·have h15:vs 15=.pointer (some ⟨g7,3,none⟩):=hvs 15 (by decide) rfl
           change Sem.run _ (execOp (Act.eval (Act.put (frm _ _ _ []) (some 93) (vs 15))) _) _=_
           simp only[frm,h15]
           have c0:=(HKM3.out w1 (HK7.out.kp hk (row_ne HOW.out HK7.out (by decide)))).1
           clear hvs
           go_simp
          ·change Sem.run _ (execOp (Act.eval (frm _ _ _ [])) _) _=_
           simp only[frm]
           clear hvs
           go_simp
          ·have h16:vs 16=.slice (some ⟨b3,o3,none⟩) m.code.length cc:=hvs 16 (by decide) rfl
           have h17:vs 17=.int .i64 (q:Int):=hvs 17 (by decide) rfl
           change Sem.run _ (execOp (Act.eval (Act.put (Act.put (frm _ _ _ []) (some 95) (vs 17)) (some 94) (vs 16))) _) _=_
           simp only[frm,h16,h17]
           clear hvs
           go_simp
          ·have h18:vs 18=.pointer (some ⟨b3,o3+q*3,none⟩):=hvs 18 (by decide) rfl
           change Sem.run _ (execOp (Act.eval (Act.put (frm _ _ _ []) (some 96) (vs 18))) _) _=_
           simp only[frm,h18]
           clear hvs
           go_simp
          ·have h19:vs 19=.pointer (some ⟨b3,o3+q*3+2,none⟩):=hvs 19 (by decide) rfl
           change Sem.run _ (execOp (Act.eval (Act.put (frm _ _ _ []) (some 97) (vs 19))) _) _=_
           simp only[frm,h19]
           obtain⟨u0,u1,u2⟩:=HE3.out w1 hk
           clear hvs
           go_simp
          ·cases hr
          ·cases hr
         ·intro i hi o ho hr hp vs w1
          rcases (show i=0 ∨ i=1 ∨ i=2 ∨ i=3 ∨ i=4 ∨ i=5 ∨ i=6 ∨ i=7 ∨ i=8 ∨ i=9 ∨ i=10 ∨ i=11 ∨ i=12 ∨ i=13 ∨ i=14 ∨ i=15 ∨ i=16 ∨ i=17 ∨ i=18 ∨ i=19 ∨ i=20 ∨ i=21 ∨ i=22 by omega) with rfl | rfl | rfl | rfl | rfl | rfl | rfl | rfl | rfl | rfl | rfl | rfl | rfl | rfl | rfl | rfl | rfl | rfl | rfl | rfl | rfl | rfl | rfl <;> cases ho
          ·change Sem.run _ (execOp (Act.eval (frm _ _ _ [])) _) _=_
           simp only[frm]
           go_simp
          ·cases hr
          ·cases hr
          ·cases hr
          ·cases hr
          ·cases hr
          ·cases hr
          ·cases hp
          ·cases hr
          ·cases hr
          ·cases hr
          ·cases hr
          ·cases hr
          ·cases hr
          ·cases hp
          ·cases hr
          ·cases hr
          ·cases hr
          ·cases hr
          ·cases hr
          ·cases hr
          ·cases hp
          ·cases hp
         ·intro i hi o ho p hp vs w1 hk hvs hrow hsub
          rcases (show i=0 ∨ i=1 ∨ i=2 ∨ i=3 ∨ i=4 ∨ i=5 ∨ i=6 ∨ i=7 ∨ i=8 ∨ i=9 ∨ i=10 ∨ i=11 ∨ i=12 ∨ i=13 ∨ i=14 ∨ i=15 ∨ i=16 ∨ i=17 ∨ i=18 ∨ i=19 ∨ i=20 ∨ i=21 ∨ i=22 by omega) with rfl | rfl | rfl | rfl | rfl | rfl | rfl | rfl | rfl | rfl | rfl | rfl | rfl | rfl | rfl | rfl | rfl | rfl | rfl | rfl | rfl | rfl | rfl <;> cases ho
          ·cases hp
          ·cases hp
          ·cases hp
          ·cases hp
          ·cases hp
          ·cases hp
          ·cases hp
          ·cases hp
           replace hrow:=row_byts (show w1.ownsRow W.heap.size 5 1 (vs 0) (byts (l7)).length (byts (l7)) from hrow)
           show Made _ (fun v w'=>w'.ownsRow W.heap.size 5 1 v (byts (la7)).length (byts (la7))∧_) _
           obtain⟨A9,c9,hA1,hc9⟩:=own_shape hrow
           have h6:vs 6=.int .i64 y1:=hvs 6 (by decide) rfl
           change Made _ _ (Sem.run _ (execOp (Act.eval (Act.put (Act.put (frm _ _ _ []) (some 84) (vs 6)) (some 78) (vs 0))) _) _)
           simp only[frm,hA1,h6]
           rw[hA1] at hrow hsub
           clear hA1 hvs h6
           have cM:=RInt_ap hrow (Nat.le_trans hBsz hk.size) HLB7.out.2.2.2.1 HLB7.out.1
           rw[← HLA7.out.1] at cM
           clear hrow hsub
           go_simp
           exact ap_chain cM
          ·cases hp
          ·cases hp
          ·cases hp
          ·cases hp
          ·cases hp
          ·cases hp
          ·cases hp
           replace hrow:=row_byts (show w1.ownsRow W.heap.size 5 1 (vs 7) (byts (la7)).length (byts (la7)) from hrow)
           show Made _ (fun v w'=>w'.ownsRow W.heap.size 5 1 v (byts (lb7)).length (byts (lb7))∧_) _
           obtain⟨A9,c9,hA1,hc9⟩:=own_shape hrow
           have h13:vs 13=.int .i64 y2:=hvs 13 (by decide) rfl
           change Made _ _ (Sem.run _ (execOp (Act.eval (Act.put (Act.put (frm _ _ _ []) (some 91) (vs 13)) (some 85) (vs 7))) _) _)
           simp only[frm,hA1,h13]
           rw[hA1] at hrow hsub
           clear hA1 hvs h13
           have cM:=RInt_ap hrow (Nat.le_trans hBsz hk.size) HLB7.out.2.2.2.2.1 HLB7.out.2.1
           rw[← HLA7.out.2.1] at cM
           clear hrow hsub
           go_simp
           exact ap_chain cM
          ·cases hp
          ·cases hp
          ·cases hp
          ·cases hp
          ·cases hp
          ·cases hp
          ·cases hp
           replace hrow:=row_byts (show w1.ownsRow W.heap.size 5 1 (vs 14) (byts (lb7)).length (byts (lb7)) from hrow)
           show Made _ (fun v w'=>w'.ownsRow W.heap.size 5 1 v (byts (l8)).length (byts (l8))∧_) _
           obtain⟨A9,c9,hA1,hc9⟩:=own_shape hrow
           have h20:vs 20=.int .i64 y3:=hvs 20 (by decide) rfl
           change Made _ _ (Sem.run _ (execOp (Act.eval (Act.put (Act.put (frm _ _ _ []) (some 98) (vs 20)) (some 92) (vs 14))) _) _)
           simp only[frm,hA1,h20]
           rw[hA1] at hrow hsub
           clear hA1 hvs h20
           have cM:=RInt_ap hrow (Nat.le_trans hBsz hk.size) HLB7.out.2.2.2.2.2 HLB7.out.2.2.1
           rw[← HLA7.out.2.2] at cM
           clear hrow hsub
           go_simp
           exact ap_chain cM
          ·cases hp
           replace hrow:=row_byts (show w1.ownsRow W.heap.size 5 1 (vs 21) (byts (l8)).length (byts (l8)) from hrow)
           show Made _ (fun v w'=>w'.ownsRow W.heap.size 5 1 v (byts (l8)).length (byts (l8))∧_) _
           obtain⟨A9,c9,hA1,hc9⟩:=own_shape hrow
           change Made _ _ (Sem.run _ (execOp (Act.eval (Act.put (frm _ _ _ []) (some 99) (vs 21))) _) _)
           simp only[frm,hA1]
           rw[hA1] at hrow hsub
           clear hA1 hvs
           go_simp
           exact made_ok ⟨by rw[byts_len];exact hrow,Kp.refl _ _,fun q hq=>.inl hq⟩
         ·intro vs w5 hk hvs hrow hsub
          have h1:vs 1=.pointer (some ⟨g7,3,none⟩):=hvs 1 (by decide) rfl
          have h2:vs 2=.slice (some ⟨b3,o3,none⟩) m.code.length cc:=hvs 2 (by decide) rfl
          have h3:vs 3=.int .i64 (q:Int):=hvs 3 (by decide) rfl
          have h4:vs 4=.pointer (some ⟨b3,o3+q*3,none⟩):=hvs 4 (by decide) rfl
          have h5:vs 5=.pointer (some ⟨b3,o3+q*3,none⟩):=hvs 5 (by decide) rfl
          have h6:vs 6=.int .i64 y1:=hvs 6 (by decide) rfl
          have h8:vs 8=.pointer (some ⟨g7,3,none⟩):=hvs 8 (by decide) rfl
          have h9:vs 9=.slice (some ⟨b3,o3,none⟩) m.code.length cc:=hvs 9 (by decide) rfl
          have h10:vs 10=.int .i64 (q:Int):=hvs 10 (by decide) rfl
          have h11:vs 11=.pointer (some ⟨b3,o3+q*3,none⟩):=hvs 11 (by decide) rfl
          have h12:vs 12=.pointer (some ⟨b3,o3+q*3+1,none⟩):=hvs 12 (by decide) rfl
          have h13:vs 13=.int .i64 y2:=hvs 13 (by decide) rfl
          have h15:vs 15=.pointer (some ⟨g7,3,none⟩):=hvs 15 (by decide) rfl
          have h16:vs 16=.slice (some ⟨b3,o3,none⟩) m.code.length cc:=hvs 16 (by decide) rfl
          have h17:vs 17=.int .i64 (q:Int):=hvs 17 (by decide) rfl
          have h18:vs 18=.pointer (some ⟨b3,o3+q*3,none⟩):=hvs 18 (by decide) rfl
          have h19:vs 19=.pointer (some ⟨b3,o3+q*3+2,none⟩):=hvs 19 (by decide) rfl
          have h20:vs 20=.int .i64 y3:=hvs 20 (by decide) rfl
          change wpList _ _ _ [] (Act.put (Act.put (Act.put (Act.put (Act.put (Act.put (Act.put (Act.put (Act.put (Act.put (Act.put (Act.put (Act.put (Act.put (Act.put (Act.put (Act.put (Act.put (Act.put (Act.put (Act.put (Act.put (Act.put (frm _ _ _ []) (some 3) (vs 22)) (some 99) (vs 21)) (some 98) (vs 20)) (some 97) (vs 19)) (some 96) (vs 18)) (some 95) (vs 17)) (some 94) (vs 16)) (some 93) (vs 15)) (some 92) (vs 14)) (some 91) (vs 13)) (some 90) (vs 12)) (some 89) (vs 11)) (some 88) (vs 10)) (some 87) (vs 9)) (some 86) (vs 8)) (some 85) (vs 7)) (some 84) (vs 6)) (some 83) (vs 5)) (some 82) (vs 4)) (some 81) (vs 3)) (some 80) (vs 2)) (some 79) (vs 1)) (some 78) (vs 0)) _
          simp only[frm,h1,h2,h3,h4,h5,h6,h8,h9,h10,h11,h12,h13,h15,h16,h17,h18,h19,h20]
          obtain⟨vt,hvt⟩:∃ vt,vt=vs 22:=⟨_,rfl⟩
          generalize vs 0=vq0
          generalize vs 7=vq7
          generalize vs 14=vq14
          generalize vs 21=vq21
          have hrow2:w5.ownsRow W.heap.size 5 1 vt (byts (l8)).length (byts (l8)):=by rw[hvt];exact hrow
          have hsub2:Sub ((.slice A7 l7.length c7)) wr vt:=by rw[hvt];exact hsub
          rw[← hvt]
          clear hrow hsub hvs hvt h1 h2 h3 h4 h5 h6 h8 h9 h10 h11 h12 h13 h15 h16 h17 h18 h19 h20
          have HB5:Hid (Below W.heap.size W w5):=lh (hk.toBelow HB.out hBsz fun q hq=>(HOW.out.lt q hq).1)
          have HK75:=lh (And.intro (HK7.out.kp hk (row_ne HOW.out HK7.out (by decide))) (HK5.out.kp hk (row_ne HOW.out HK5.out (by decide))))
          have HO5:Hid (w5.ownsRow W.heap.size 5 1 vt l8.length (byts l8)):=lh (row_byts hrow2)
          clear hrow2 hsub2 hk HOW HB HK7 HK5 hBsz
          go_wp2_with fail
          go_roundw
          case rel=>exact⟨q+1,l8,by go_num,by omega,by rw[HLA7.out.2.2,HLA7.out.2.1,HLA7.out.1,HL7.out,HTK7.out];simp only[encIns,List.append_assoc],HO5.out,HB5.out,HK75.out.1,HK75.out.2⟩
          case measure=>simp[intOf];omega
        ·obtain rfl:q=m.code.length:=by omega
         have hl7:l7=l5++encL encIns m.code:=by rw[HL7.out,HL6.out,List.take_of_length_le (Nat.le_refl _),List.append_assoc];rfl
         have hl7l:l7.length+(encL encS m.names).length≤2147483648:=by have:=HL5.out.2;rw[hl7,List.length_append];omega
         have cT:=RTexts_ap HOW.out HB.out.size (HNS.out.below HB.out) hcn (by omega)
         obtain⟨l8,hl8⟩:∃ l8,l8=l7++encL encS m.names:=⟨_,rfl⟩
         rw[← hl8] at cT
         have HL8:=lh (And.intro hl8 hl7)
         have a4:=(HKM3.out wr HK7.out).2
         clear hl7 hl8 hl7l hq
         go_wp2_with fail
         refine cT.mono ?_
         rintro e w9 ⟨v9,rfl,ho9,hk9,hv9⟩
         have HO9:=lh ho9
         have HB9:Hid (Below W.heap.size W w9):=lh (hk9.toBelow HB.out HB.out.size fun q hq=>(HOW.out.lt q hq).1)
         have HK59:=lh (HK5.out.kp hk9 (row_ne HOW.out HK5.out (by decide)))
         obtain⟨A9,c9,rfl,hc9⟩:=own_shape ho9
         clear cT ho9 hk9 hv9 a4 a3 HOW HB
         go_wp2_with fail
         go_roundw
         case rel=>exact⟨i+1,l8,by go_num,by omega,by rw[HL8.out.1,HL8.out.2,HL5.out.1,HLA4.out.2,HLA4.out.1,HL4.out,HTK4.out];simp only[encMth,List.append_assoc],HO9.out,HB9.out,HK59.out⟩
         case measure=>simp[intOf];omega
     ·obtain rfl:i=x.ms.length:=by omega
      clear hlt2 hi
      go_wp2_with fail
      go_roundw
      case rel=>exact⟨j+1,l4,by go_num,by omega,by rw[HL4.out,HL3.out,HL2.out.1,HLA.out.2,HLA.out.1,HL1.out,HTK.out,List.take_of_length_le (Nat.le_refl _)];simp only[encCls,encL,List.append_assoc],HOW.out,HB.out⟩
      case measure=>simp[intOf];omega
  ·obtain rfl:j=cs.length:=by omega
   have HEQ:Hid (encCode cs=l1):=lh (by rw[HL1.out,List.take_of_length_le (Nat.le_refl _)];rfl)
   clear hlt hj
   go_wp2_with fail
   go_ret
   exact⟨_,rfl,by rw[HEQ.out];exact own_base HOW.out HB0.out.size,HB0.out.trans (HB.out.mono HB0.out.size)⟩
end
end
end Go.Proofs.YtmbnlccafcfbeaaDoor
