/- Parts of the proof: NurF. -/
import Derived.Test.YtaijmgkjbbiboaaGreatPcA
import Derived.Test.YtaijmgkjbbiboaaGreatPc30
set_option linter.unusedVariables false
set_option linter.unusedSimpArgs false
set_option linter.unusedSectionVars false
set_option maxRecDepth 100000
namespace Go.Proofs.YtaijmgkjbbiboaaGreat
section
open Go.RowKit Go.Maps
attribute [local go_sem] Oper.semAt_some
theorem Mm.Ok.crI {m:Mm} (ok:m.Ok) {cs roots:List Int} (h:(m.order cs roots).2=false):m.CrI (m.order cs roots).1 (m.crossing (cardIn cs)):=by
 refine⟨(ok.crossing_inc (cardIn cs)).imp fun h e=>by omega,fun a ha=>?_⟩
 obtain⟨⟨x,hx,_,hy⟩,ho,_,_⟩:=ok.crossing_all ha
 refine⟨ho,x,hx,?_,hy,(Mm.order_met ok h).2.1 x ?_⟩
 ·unfold Mm.at_ Mm.sp at hx
  rw[if_pos ho] at hx
  exact hx
 ·unfold Mm.remW
  exact List.mem_map.2 ⟨a,ha,by rw[hx];rfl⟩
theorem SpR.low {w:World} {B B' g:Nat} {s:Spc} {V:Value} (h:SpR w B g s V) (hb:B'≤B):SpR w B' g s V :=
 ⟨h.hd,ownsRow_mono h.own hb,Nat.le_trans hb h.ge,h.u,h.b0,h.lim,h.l0⟩
def ClT (W:World) (s:Spc) (v:Value) (w:World):Prop:=∃ g V,v=.pointer (some ⟨g,0,none⟩)∧SpR w W.heap.size g s V∧W.heap.size≤g
theorem ClT.bl {W:World} {s:Spc} (v:Value) (w w':World) (h:ClT W s v w) (hb:Below w.heap.size w w'):ClT W s v w':=by
 obtain⟨g,V,e,h1,h2⟩:=h
 exact⟨g,V,e,h1.below hb,h2⟩
theorem ClT.of {W w w':World} {s:Spc} (hb:Below W.heap.size W w) {e:Ending} (h:CloneP w s e w'):∃ v,e=.returned v∧ClT W s v w'∧Below w.heap.size w w'∧∀ k,(fun _=>none:Value→Option Nat) v=some k→w.heap.size≤k∧k < w'.heap.size:=by
 obtain⟨g,V,he,h1,h2,h3⟩:=h
 exact⟨_,he,⟨g,V,rfl,h1.low hb.size,Nat.le_trans hb.size h2⟩,h3,fun k hk=>nomatch hk⟩
theorem Mm.hdW_u {m:Mm} (ok:m.Ok) (a:Int):∀ x∈m.hdW a,U64 x:=by
 intro x hx
 have h0:U64 0:=⟨by decide,by decide⟩
 have hg:∀ b,U64 ((m.at_ b).getD 0):=fun b=>by
  cases hb:m.at_ b with
  | none=>exact h0
  | some y =>
   unfold Mm.at_ Mm.sp at hb
   split at hb
   ·exact ok.o.at_u hb
   ·exact ok.y.at_u hb
 unfold Mm.hdW at hx
 rcases List.mem_append.1 hx with hx | hx
 ·simp only[List.mem_cons,List.not_mem_nil,or_false] at hx
  rcases hx with rfl | rfl
  ·exact hg _
  ·exact hg _
 ·rw[List.eq_of_mem_replicate hx];exact h0
theorem Mm.laid0 {m:Mm} (ok:m.Ok) {l:List Int} (hl:m.OrdI l) (ts:List Int):LaidZ m l (m.zI l ts 0):=by
 have e:m.zI l ts 0=l.flatMap m.hdW:=by unfold Mm.zI;simp
 rw[e]
 refine Mm.laid_of hl (fun a ha=>Mm.hdW_len (hl.ok a ha).1) (fun a _=>Mm.hdW_u ok a) fun a ha=>?_
 unfold Mm.hdW
 exact⟨rfl,rfl⟩
/-- the memory in the middle of a collection -/
structure CoI (m:Mm) (L CR_:List Int):Prop where
 ok:m.Ok
 hl:m.OrdI L
 cr:m.CrI L CR_
 hf:m.old.top+m.need L≤m.old.limit
theorem CoI.upd {m:Mm} {L CR_:List Int} (h:CoI m L CR_) (j:Nat):UpdI m L (m.plc m.old.top L) (m.upd L (m.plc m.old.top L) (CR_.take j) m.old.ws) :=
 (UpdI.upd h.ok (ts:=m.plc m.old.top L) (cr:=CR_.take j) _ rfl (Mm.CrI.pre (cr':=CR_.drop j) (by rw[List.take_append_drop];exact h.cr))).1
theorem CoI.mvd {m:Mm} {L CR_ Z:List Int} (h:CoI m L CR_) (j:Nat) (hz:LaidZ m L Z) {x:Int} (hx:m.Met L x):(m.mid (m.upd L (m.plc m.old.top L) (CR_.take j) m.old.ws) Z).mvd L (m.plc m.old.top L) x=m.mvd L (m.plc m.old.top L) x :=
 Mid.mvd h.ok h.hl (Mid.of h.ok h.hl (h.upd j) hz h.hf) hx.1 hx.2
/-- what Collect returns and leaves -/
def ColP (w:World) (B1 B2 g1 gy gt bt kt:Nat) (V1 V2:Value) (C:Col) (e:Ending) (w':World):Prop :=
 ∃ v V1' V2' k',e=.returned (.tuple #[v,.int .i64 (C.n:Int),.int .i64 C.e])∧w'.ownsRow w.heap.size 54 1 v C.out.length (wds C.out)∧MR w' B1 g1 gy V1' V2' C.m∧CR w' B2 gt bt k' C.cs ∧
  ((∀ q,V1'.ownBlock=some q→V1.ownBlock=some q ∨ w.heap.size≤q)∧(∀ q,V2'.ownBlock=some q→V2.ownBlock=some q)∧(∀ q,v.ownBlock=some q→V1'.ownBlock≠some q∧V2'.ownBlock≠some q))∧Kp (fun q=>q=g1 ∨ q=gy ∨ V1.ownBlock=some q ∨ V2.ownBlock=some q ∨ q=bt) w w'∧(k'=kt ∨ k'=0)
theorem ColP.err {w w':World} {B1 B2 g1 gy gt bt kt:Nat} {V1 V2:Value} {m:Mm} {cs:List Int} (h:MR w B1 g1 gy V1 V2 m) (hc:CR w B2 gt bt kt cs) (hb:Below w.heap.size w w') (er:Int):ColP w B1 B2 g1 gy gt bt kt V1 V2 ⟨er,m,cs,[],0⟩ (.returned (.tuple #[.slice none 0 0,.int .i64 0,.int .i64 er])) w' :=
 ⟨_,V1,V2,kt,rfl,World.ownsRow_nil _ _ _ _,h.below hb,hc.below hb,⟨fun q hq=>.inl hq,fun q hq=>hq,fun q hq=>by cases hq⟩,Kp.of_below hb,.inl rfl⟩
section
variable {w:World} {B1 B2 g1 gy gt bt kt c:Nat} {V1 V2:Value} {m:Mm} {cs roots:List Int} {A:Option Addr}
set_option maxHeartbeats 16000000 in
theorem Collect_any (h:MR w B1 g1 gy V1 V2 m) (hB1:B1≤w.heap.size) (hc:CR w B2 gt bt kt cs) (hs:Sl w 1 A roots.length (wds roots)) (hlc:roots.length≤c) (hll:roots.length≤100000000) (hru:∀ x∈roots,U64 x) (hA:∀ b' o,A=some ⟨b',o,none⟩→b' < w.heap.size∧b'≠g1∧V1.ownBlock≠some b'∧V2.ownBlock≠some b') (hm:m.size≤40000000) :
  Calls Tryz.prog 17 #[.agg #[.pointer (some ⟨g1,0,none⟩),.pointer (some ⟨gy,0,none⟩)],.pointer (some ⟨gt,0,none⟩),.slice A roots.length c] w (ColP w B1 B2 g1 gy gt bt kt V1 V2 (m.collect m.yng.chk cs roots)):=by
 have hcl:=h.ok.crossing_len2 (cardIn cs)
 obtain⟨Q,hQ⟩:∃ Q,Q=ColP w B1 B2 g1 gy gt bt kt V1 V2 (m.collect m.yng.chk cs roots):=⟨_,rfl⟩
 rw[← hQ]
 have hb0:Below w.heap.size w (w.alloc (.cells #[.pointer (some ⟨g1,0,none⟩),.pointer (some ⟨gy,0,none⟩)] 29)):=(Below.refl _ _).alloc (Nat.le_refl _) _
 have HQE:Hid (∀ er w',Below w.heap.size w w'→m.collect m.yng.chk cs roots=⟨er,m,cs,[],0⟩→Q (.returned (.tuple #[.slice none 0 0,.int .i64 0,.int .i64 er])) w'):=lh fun er w' hb he=>by
  rw[hQ,he]
  exact ColP.err h hc hb er
 have HQ:=lh hQ
 have HC:=lh (show m.collect m.yng.chk cs roots=_ from rfl)
 have cO:=norder_any (h.below hb0) (hc.below hb0) (hs.below hb0) hlc (by omega) hru (fun b' o e=>Nat.lt_of_lt_of_le (hA b' o e).1 hb0.size) hm (by omega)
 have HCR:=lh (fun hp=>h.ok.crI (cs:=cs) (roots:=roots) hp)
 have HMET:=lh (fun hp=>Mm.order_met h.ok (cs:=cs) (roots:=roots) hp)
 have HOI:=lh (Mm.order_I m cs roots)
 have HM0:Hid (Bk (w.alloc (.cells #[.pointer (some ⟨g1,0,none⟩),.pointer (some ⟨gy,0,none⟩)] 29)) w.heap.size 29 #[.pointer (some ⟨g1,0,none⟩),.pointer (some ⟨gy,0,none⟩)]):=lh (Bk.new _ _ _)
 have HB0:=lh hb0
 have H:=lh h
 have HCR0:=lh hc
 have HSL:=lh hs
 have HRU:=lh hru
 have HA:=lh hA
 have hB1':=lh hB1
 have HCOL:Hid (m.collect m.yng.chk cs roots=if (m.order cs roots).2=true ∨ m.yng.chk≠0 then ⟨11,m,cs,[],0⟩
  else if m.old.top+m.need (m.order cs roots).1 > m.old.limit then ⟨8,m,cs,[],0⟩
  else ⟨0,⟨{ m.old with ws:=m.upd (m.order cs roots).1 (m.plc m.old.top (m.order cs roots).1) (m.crossing (cardIn cs)) m.old.ws++(m.order cs roots).1.flatMap (m.cpy (m.order cs roots).1 (m.plc m.old.top (m.order cs roots).1)) },{ m.yng with ws:=[] }⟩,[],
   roots.map (m.mvd (m.order cs roots).1 (m.plc m.old.top (m.order cs roots).1)),(m.order cs roots).1.length⟩):=lh rfl
 unfold OrdP at cO
 have HLN:=lh (HOI.out.len h.ok)
 have hml:m.yng.ws.length≤40000000:=by unfold Mm.size at hm;omega
 obtain⟨⟨L,bad⟩,hL⟩:∃ p,p=m.order cs roots:=⟨_,rfl⟩
 rw[← hL] at cO HCR HMET HOI HCOL HLN
 dsimp only at cO HCR HMET HOI HCOL HLN
 have hln:=HLN.out
 obtain⟨CR_,hCR⟩:∃ C,C=m.crossing (cardIn cs):=⟨_,rfl⟩
 rw[← hCR] at HCR hcl HCOL
 have HRW:=lh hCR
 clear h hc hs hru hA hb0 hQ hL hB1 hm hCR HC HLN
 go_enter Tryz.func17,Tryz.ntmps17
 go_upto_region 1 with fail
 generalize w.alloc (.cells #[.pointer (some ⟨g1,0,none⟩),.pointer (some ⟨gy,0,none⟩)] 29)=w0 at *
 obtain⟨Nm,hNm⟩:∃ Nm,Nm=w.heap.size:=⟨_,rfl⟩
 rw[← hNm] at HM0 ⊢
 have HNM:=lh hNm
 clear hNm
 have m0c:w0.cell? ⟨Nm,0,none⟩=some (.pointer (some ⟨g1,0,none⟩)):=HM0.out.cell 0
 have m1c:w0.cell? ⟨Nm,1,none⟩=some (.pointer (some ⟨gy,0,none⟩)):=HM0.out.cell 1
 go_wp2_with fail
 refine cO.mono ?_
 rintro e w1 ⟨v,rfl,hown,hb⟩
 obtain⟨A1,c1,rfl,hc1⟩:=own_shape hown
 have HO1:=lh (ownsRow_mono hown HB0.out.size)
 have HB1:=lh (HB0.out.trans (hb.mono HB0.out.size))
 have HM1:=lh (HM0.out.below hb HM0.out.lt)
 clear cO hown hb m0c m1c HB0 HM0
 cases bad with
 | true =>
  have HE:=lh (HQE.out 11 w1 HB1.out (by rw[HCOL.out,if_pos (.inl rfl)]))
  clear HCOL HQE
  go_wp2_with fail
  go_ret3
  exact HE.out
 | false =>
  have cK:=Check_any (H.out.below HB1.out).y
  have m0c:w1.cell? ⟨Nm,0,none⟩=some (.pointer (some ⟨g1,0,none⟩)):=HM1.out.cell 0
  have m1c:w1.cell? ⟨Nm,1,none⟩=some (.pointer (some ⟨gy,0,none⟩)):=HM1.out.cell 1
  obtain⟨ck,hck⟩:∃ ck,ck=m.yng.chk:=⟨_,rfl⟩
  rw[← hck] at cK HCOL HQE HQ
  have HCK:=lh hck
  clear hck
  go_wp2_with fail
  refine cK.mono ?_
  rintro e w2 ⟨rfl,hb⟩
  have HB2:=lh (HB1.out.trans (hb.mono HB1.out.size))
  have HM2:=lh (HM1.out.below hb HM1.out.lt)
  have HO2:=lh (own_local HO1.out fun k hk=>hb.block k (HO1.out.lt k hk).2)
  have HC2:=lh (HCR0.out.below HB2.out)
  clear cK hb m0c m1c HB1 HM1 HO1
  by_cases hk0:ck=0
  ·have m0c:w2.cell? ⟨Nm,0,none⟩=some (.pointer (some ⟨g1,0,none⟩)):=HM2.out.cell 0
   have m1c:w2.cell? ⟨Nm,1,none⟩=some (.pointer (some ⟨gy,0,none⟩)):=HM2.out.cell 1
   have cR:=Remembered_any (H.out.below HB2.out) HC2.out
   rw[← HRW.out] at cR
   subst hk0
   go_wp2_with fail
   refine cR.mono ?_
   rintro e w4 ⟨v,rfl,hown,hb⟩
   obtain⟨A2,c2,rfl,hc2⟩:=own_shape hown
   have HB4:=lh (HB2.out.trans (hb.mono HB2.out.size))
   have HM4:=lh (HM2.out.below hb HM2.out.lt)
   have HO4:=lh (own_local HO2.out fun k hk=>hb.block k (HO2.out.lt k hk).2)
   have HR4:=lh (ownsRow_mono hown HB2.out.size)
   have H4:=lh (H.out.below HB4.out)
   clear cR hown hb m0c m1c HB2 HM2 HO2 HC2
   go_upto_region 5 with fail
   have htop:0≤m.old.top∧m.old.limit≤4294967296∧m.old.top≤m.old.limit:=by
    have h1:=H.out.ok.ob
    have h2:=H.out.ok.ol
    have h3:=H.out.ok.o.lim
    unfold Spc.top
    omega
   have hrg:∀ a∈L,0≤a∧a≤4294967295:=fun a ha=>hdr_rg H.out.ok (HOI.out.ok a ha).1
   have HRG:=lh hrg
   have HTOP:=lh htop
   clear hrg htop
   refine wp_region_first 5 (fun i=>([[],[],[1],[2],[]]:List (List Nat)).getD i []) (EL [Ent.val (.agg #[.pointer (some ⟨g1,0,none⟩),.pointer (some ⟨gy,0,none⟩)]),Ent.val (.pointer (some ⟨Nm,0,none⟩)),Ent.val (.pointer (some ⟨g1,0,none⟩)),Ent.of (ClT w4 m.old) ClT.bl,Ent.val (.slice A1 L.length c1)]) rfl (by kernel_rfl) (by kernel_rfl) (by kernel_rfl) (by rfl) ?_ ?_
   ·intro i hi o ho vs w1 hb1 hgr
    rcases (show i=0 ∨ i=1 ∨ i=2 ∨ i=3 ∨ i=4 by omega) with rfl | rfl | rfl | rfl | rfl <;> cases ho
    ·clear hgr
     change Made _ (Adds _ _ _) (Sem.run _ (execOp (Act.eval (frm _ _ _ [])) _) _)
     simp only[frm]
     have hbk:=HM4.out.below hb1 HM4.out.lt
     have c0:w1.cell? ⟨Nm,0,none⟩=some (.pointer (some ⟨g1,0,none⟩)):=hbk.cell 0
     have c1:w1.cell? ⟨Nm,1,none⟩=some (.pointer (some ⟨gy,0,none⟩)):=hbk.cell 1
     clear hbk
     go_simp
     exact adds_val rfl
    ·clear hgr
     change Made _ (Adds _ _ _) (Sem.run _ (execOp (Act.eval (frm _ _ _ [])) _) _)
     simp only[frm]
     go_simp
     exact adds_val rfl
    ·have h1:vs 1=_:=hgr 1 (by decide)
     clear hgr
     change Made _ (Adds _ _ _) (Sem.run _ (execOp (Act.eval (Act.put (frm _ _ _ []) (some 45) (vs 1))) _) _)
     simp only[frm,h1]
     have hbk:=HM4.out.below hb1 HM4.out.lt
     have c0:w1.cell? ⟨Nm,0,none⟩=some (.pointer (some ⟨g1,0,none⟩)):=hbk.cell 0
     clear hbk
     go_simp
     exact adds_val rfl
    ·have h2:vs 2=_:=hgr 2 (by decide)
     clear hgr
     change Made _ (Adds _ _ _) (Sem.run _ (execOp (Act.eval (Act.put (frm _ _ _ []) (some 46) (vs 2))) _) _)
     simp only[frm,h2]
     have cC:=SpClone_any (H4.out.below hb1).o
     go_simp
     exact adds_call (T:=ClT w4 m.old) (hT:=ClT.bl) (ob:=fun _=>none) cC fun e w2 h=>ClT.of hb1 h
    ·clear hgr
     change Made _ (Adds _ _ _) (Sem.run _ (execOp (Act.eval (frm _ _ _ [])) _) _)
     simp only[frm]
     go_simp
     exact adds_val rfl
   intro vs w1 hb1 hall hap
   have h0:vs 0=_:=(hall 0 (by omega)).1
   have h1:vs 1=_:=(hall 1 (by omega)).1
   have h2:vs 2=_:=(hall 2 (by omega)).1
   obtain⟨gc,Vc,h3,hsc,hgc⟩:=(hall 3 (by omega)).1
   have h4:vs 4=_:=(hall 4 (by omega)).1
   clear hall hap
   change wpList _ _ _ [_] (Act.put (Act.put (Act.put (Act.put (Act.put (frm _ _ _ []) (some 48) (vs 4)) (some 47) (vs 3)) (some 46) (vs 2)) (some 45) (vs 1)) (some 44) (vs 0)) _
   simp only[frm,h0,h1,h2,h3,h4]
   have hpl:=ClI.plI (w:=w1) H4.out HOI.out hb1 hsc hgc
   have HOW:=lh (own_local HO4.out (w':=w1) fun k hk=>hb1.block k (HO4.out.lt k hk).2)
   have cP:=place_any hpl HOI.out HRG.out HTOP.out HOW.out (by omega)
   have hb1s:=hb1.size
   clear hpl hsc hb1 h0 h3 h4
   unfold PlcP at cP
   by_cases hfit:m.old.top+m.need L≤m.old.limit
   ·replace cP:=cP.mono (fun e w5 h=>And.intro h.1 (h.2.1 hfit))
    go_wp2_with fail
    refine cP.mono ?_
    rintro e w5 ⟨hsz5,bq,nq,rfl,_,⟨hb5,_⟩,_⟩
    clear cP
    go_wp2_with fail
    simp only[normalTo]
    refine phase2_all 6 11 (fun i=>([[],[],[1],[2],[],[0,3,4],[5],[6],[6],[7],[8]]:List (List Nat)).getD i []) (EL [Ent.val (.agg #[.pointer (some ⟨g1,0,none⟩),.pointer (some ⟨gy,0,none⟩)]),Ent.val (.pointer (some ⟨Nm,0,none⟩)),Ent.val (.pointer (some ⟨g1,0,none⟩)),Ent.val (.pointer (some ⟨gc,0,none⟩)),Ent.val (.slice A1 L.length c1),Ent.val (.tuple #[.map (some bq),.int .i64 0]),Ent.val (.tuple #[.map (some bq),.int .i64 0]),Ent.val (.map (some bq)),Ent.val (.int .i64 0),Ent.val (.map (some bq)),Ent.val (.int .i64 0)]) (by kernel_rfl) rfl (by omega) (by kernel_rfl) (by kernel_rfl) (by rfl) ?_ ?_ ?_
    ·intro i hi
     rcases (show i=0 ∨ i=1 ∨ i=2 ∨ i=3 ∨ i=4 ∨ i=5 by omega) with rfl | rfl | rfl | rfl | rfl | rfl <;> exact⟨rfl,fun _=>rfl⟩
    ·intro i hmi hi o ho vs w1 hb1 hgr
     rcases (show i=6 ∨ i=7 ∨ i=8 ∨ i=9 ∨ i=10 by omega) with rfl | rfl | rfl | rfl | rfl <;> cases ho
     ·have h5:vs 5=_:=hgr 5 (by decide)
      clear hgr
      change Made _ (Adds _ _ _) (Sem.run _ (execOp (Act.eval (Act.put (frm _ _ _ []) (some 49) (vs 5))) _) _)
      simp only[frm,h5]
      go_simp
      exact adds_val rfl
     ·have h6:vs 6=_:=hgr 6 (by decide)
      clear hgr
      change Made _ (Adds _ _ _) (Sem.run _ (execOp (Act.eval (Act.put (frm _ _ _ []) (some 43) (vs 6))) _) _)
      simp only[frm,h6]
      go_simp
      exact adds_val rfl
     ·have h6:vs 6=_:=hgr 6 (by decide)
      clear hgr
      change Made _ (Adds _ _ _) (Sem.run _ (execOp (Act.eval (Act.put (frm _ _ _ []) (some 43) (vs 6))) _) _)
      simp only[frm,h6]
      go_simp
      exact adds_val rfl
     ·have h7:vs 7=_:=hgr 7 (by decide)
      clear hgr
      change Made _ (Adds _ _ _) (Sem.run _ (execOp (Act.eval (Act.put (frm _ _ _ []) (some 50) (vs 7))) _) _)
      simp only[frm,h7]
      go_simp
      exact adds_val rfl
     ·have h8:vs 8=_:=hgr 8 (by decide)
      clear hgr
      change Made _ (Adds _ _ _) (Sem.run _ (execOp (Act.eval (Act.put (frm _ _ _ []) (some 51) (vs 8))) _) _)
      simp only[frm,h8]
      go_simp
      exact adds_val rfl
    intro vs w1 hb1 hall hap
    have h9:vs 9=_:=(hall 9 (by omega)).1
    have h10:vs 10=_:=(hall 10 (by omega)).1
    clear hall hap
    change wpList _ _ _ [] (Act.put (Act.put (Act.put (Act.put (Act.put (Act.put (Act.put (Act.put (Act.put (Act.put (Act.put (frm _ _ _ []) (some 13) (vs 10)) (some 12) (vs 9)) (some 51) (vs 8)) (some 50) (vs 7)) (some 43) (vs 6)) (some 49) (vs 5)) (some 48) (vs 4)) (some 47) (vs 3)) (some 46) (vs 2)) (some 45) (vs 1)) (some 44) (vs 0)) _
    simp only[frm,h9,h10]
    have HB6:=lh (HB4.out.trans ((hb5.trans (hb1.mono hb5.size)).mono HB4.out.size))
    have hb46:Below w4.heap.size w4 w1:=hb5.trans (hb1.mono hb5.size)
    have HM6:=lh (HM4.out.below hb46 HM4.out.lt)
    have HO6:=lh (own_local HO4.out (w':=w1) fun k hk=>hb46.block k (HO4.out.lt k hk).2)
    have HR6:=lh (own_local HR4.out (w':=w1) fun k hk=>hb46.block k (HR4.out.lt k hk).2)
    have H6:=lh (H4.out.below hb46)
    clear hb5 hb1 hb46 hsz5 h9 h10 HB4 HM4 HO4 HR4 H4 HOW hb1s hgc
    generalize w1=w6 at *
    have m0c:w6.cell? ⟨Nm,0,none⟩=some (.pointer (some ⟨g1,0,none⟩)):=HM6.out.cell 0
    have m1c:w6.cell? ⟨Nm,1,none⟩=some (.pointer (some ⟨gy,0,none⟩)):=HM6.out.cell 1
    have hB16:B1≤w6.heap.size:=by have:=hB1'.out;have:=HB6.out.size;omega
    have cP2:=(place_any (OdI.plI H6.out HOI.out hB16 HTOP.out.2.2) HOI.out HRG.out HTOP.out HO6.out (by omega)).mono (fun e w5 h=>And.intro h.1 (h.2.1 hfit))
    clear hB16
    go_wp2_with fail
    refine cP2.mono ?_
    rintro e w7 ⟨hsz7,bt2,nt2,rfl,hmp7,⟨V1',hmr7,hvo7,hkp7,_⟩,hbt7⟩
    clear cP2 m0c m1c
    have HCO:Hid (CoI m L CR_):=lh ⟨H.out.ok,HOI.out,HCR.out trivial,hfit⟩
    have HMT:=lh (HMET.out trivial)
    rw[List.take_length] at hmr7
    have ez:L.flatMap m.hdW=m.zI L (m.plc m.old.top L) 0:=by unfold Mm.zI;simp
    rw[ez] at hmr7
    have HZ0:=lh (Mm.laid0 H.out.ok HOI.out (m.plc m.old.top L))
    have hbx:Below w7.heap.size w7 (w7.alloc (.cells #[.map (some bt2)] 104)):=(Below.refl _ _).alloc (Nat.le_refl _) _
    have hS6:∀ q,(q=g1 ∨ V1.ownBlock=some q)→∃ t cs,Bk w6 q t cs∧(t=123 ∨ t=54):=fun q hq=>by
     rcases hq with rfl | hq
     ·exact⟨_,_,H6.out.o.hd,.inl rfl⟩
     ·obtain⟨cs,hc⟩:=H6.out.o.own_cells hq
      exact⟨_,cs,hc,.inr rfl⟩
    have HM7:=HM6.out.kp hkp7 fun e=>by obtain⟨t,cs,hb,ht⟩:=hS6 _ e;exact Bk.neT HM6.out hb (by rcases ht with rfl | rfl <;> decide) rfl
    have HO7:=own_local HO6.out (w':=w7) fun k hk=>hkp7.block k (HO6.out.lt k hk).2 fun e=>by obtain⟨t,cs,hb,ht⟩:=hS6 _ e;exact ownRow_bk HO6.out hb (by rcases ht with rfl | rfl <;> decide) hk
    have HR7:=own_local HR6.out (w':=w7) fun k hk=>hkp7.block k (HR6.out.lt k hk).2 fun e=>by obtain⟨t,cs,hb,ht⟩:=hS6 _ e;exact ownRow_bk HR6.out hb (by rcases ht with rfl | rfl <;> decide) hk
    have HO8:=lh (own_local HO7 fun k hk=>hbx.block k (HO7.lt k hk).2)
    have HR8:=lh (own_local HR7 fun k hk=>hbx.block k (HR7.lt k hk).2)
    have HV8:Hid (MvW (w7.alloc (.cells #[.map (some bt2)] 104)) B1 Nm w7.heap.size bt2 nt2 g1 gy V1' V2 (m.mid m.old.ws (m.zI L (m.plc m.old.top L) 0)) L (m.plc m.old.top L)):=lh ⟨hmr7.below hbx,HM7.below hbx HM7.lt,Bk.new _ _ _,hmp7.block (hbx.block _ hmp7.lt)⟩
    have HK8:Hid (Kp (fun q=>q=g1 ∨ V1.ownBlock=some q) w (w7.alloc (.cells #[.map (some bt2)] 104))):=lh (((Kp.of_below (S:=fun q=>q=g1 ∨ V1.ownBlock=some q) HB6.out).trans hkp7 fun _ _ e=>e).trans (Kp.of_below (S:=fun q=>q=g1 ∨ V1.ownBlock=some q) hbx) fun _ _ e=>e)
    have HVO:Hid (∀ q,V1'.ownBlock=some q→V1.ownBlock=some q ∨ w.heap.size≤q):=lh fun q hq=>(hvo7 q hq).imp id fun e=>Nat.le_trans HB6.out.size e
    have hsz8:w.heap.size≤w7.heap.size:=by have:=HB6.out.size;omega
    clear hmr7 hmp7 hvo7 hkp7 hbt7 hsz7 ez hbx hS6 HM7 HO7 HR7 HO6 HR6 H6 HM6 HB6
    go_upto_region 10 with fail
    generalize hNt:w7.heap.size=Nt at *
    generalize w7.alloc (.cells #[.map (some bt2)] 104)=w8 at *
    clear hNt
    obtain⟨ts,hts⟩:∃ ts,ts=m.plc m.old.top L:=⟨_,rfl⟩
    have hB8:=HK8.out.size
    go_wp2_with fail
    go_loopw [65] (fun i wr=>∃ j:Nat,i=.int .i64 (j:Int)∧j≤CR_.length∧MvW wr B1 Nm Nt bt2 nt2 g1 gy V1' V2 (m.mid (m.upd L (m.plc m.old.top L) (CR_.take j) m.old.ws) (m.zI L (m.plc m.old.top L) 0)) L (m.plc m.old.top L)∧Kp (memS V1' V2) w8 wr) (fun i _=>CR_.length - (intOf i).toNat)
    case atStart=>exact⟨0,rfl,Nat.zero_le _,HV8.out,Kp.refl _ _⟩
    case round =>
     obtain⟨j,rfl,hj,hv,hkp⟩:=hrel
     have HV:=lh hv
     have HKP:=lh hkp
     have hmS:∀ q,memS V1' V2 q→∃ cs,Bk w8 q 54 cs:=fun q e=>e.elim HV8.out.mr.o.own_cells HV8.out.mr.y.own_cells
     have HOR:=lh (own_local HO8.out (w':=wr) fun k hk=>hkp.block k (HO8.out.lt k hk).2 fun e=>by obtain⟨cs,hb⟩:=hmS _ e;exact ownRow_bk HO8.out hb (by decide) hk)
     have HRR:=lh (own_local HR8.out (w':=wr) fun k hk=>hkp.block k (HR8.out.lt k hk).2 fun e=>by obtain⟨cs,hb⟩:=hmS _ e;exact ownRow_bk HR8.out hb (by decide) hk)
     by_cases hlt:j < CR_.length
     ·obtain⟨bb,oo,rfl,hb1,hc1⟩:=(own_sl HRR.out).get hlt
      have t1:CR_[j]?=some CR_[j]:=List.getElem?_eq_getElem hlt
      have e1:wr.cell? ⟨bb,oo+j,none⟩=some (.int .i64 CR_[j]):=hc1 j _ (ints_get t1)
      generalize CR_[j]=a at e1 t1
      have hup:=Mm.upd_at HCO.out.ok (ts:=m.plc m.old.top L) (Z:=m.zI L (m.plc m.old.top L) 0) HCO.out.cr t1
      obtain⟨x,r,hx0,hy,hld,hlst,hmet,hx,hput,hhas⟩:=hup
      have hxu:U64 x:=by
       unfold Mm.at_ Mm.sp at hx0
       split at hx0
       ·exact H.out.ok.o.at_u hx0
       ·exact H.out.ok.y.at_u hx0
      have HXU:=lh hxu
      have HMV:=lh (HCO.out.mvd j HZ0.out hmet)
      have HPUT:=lh hput
      have HMB:=lh hv.bm
      have hcc:j < c2:=by omega
      have m0c:wr.cell? ⟨Nm,0,none⟩=some (.pointer (some ⟨g1,0,none⟩)):=hv.bm.cell 0
      have m1c:wr.cell? ⟨Nm,1,none⟩=some (.pointer (some ⟨gy,0,none⟩)):=hv.bm.cell 1
      have cL:=MLoad_of hv.mr a
      rw[hx] at cL
      simp only[atV] at cL
      obtain⟨y,hyy⟩:∃ y,y=m.mvd L (m.plc m.old.top L) x:=⟨_,rfl⟩
      rw[← hyy] at HMV HPUT
      have HYU:Hid (U64 y):=lh (by rw[hyy];exact m.mvd_u _ _ hxu)
      clear hc1 t1 hv hkp hx0 hy hld hlst hmet hx hput hhas hxu hyy hb1 hmS
      go_wp2_with fail
      refine cL.mono ?_
      rintro e w9 ⟨rfl,hb⟩
      have HV9:=lh (HV.out.below hb)
      have HMB9:=lh (HMB.out.below hb HMB.out.lt)
      have HKP9:=lh (HKP.out.trans (Kp.of_below (S:=memS V1' V2) hb) fun _ _ e=>e)
      clear hb cL m0c m1c HV HMB HKP
      go_upto_region 14 with fail
      refine wp_region_first 5 (fun i=>([[],[],[],[],[2,3]]:List (List Nat)).getD i []) (EL [Ent.val (.agg #[.pointer (some ⟨g1,0,none⟩),.pointer (some ⟨gy,0,none⟩)]),Ent.val (.int .i64 a),Ent.val (.func (.func 57) #[] #[.pointer (some ⟨Nm,0,none⟩),.pointer (some ⟨Nt,0,none⟩)]),Ent.val (.int .u64 x),Ent.val (.int .u64 y)]) rfl (by kernel_rfl) (by kernel_rfl) (by kernel_rfl) (by rfl) ?_ ?_
      ·intro i hi o ho vs w1 hb1 hgr
       rcases (show i=0 ∨ i=1 ∨ i=2 ∨ i=3 ∨ i=4 by omega) with rfl | rfl | rfl | rfl | rfl <;> cases ho
       ·clear hgr
        change Made _ (Adds _ _ _) (Sem.run _ (execOp (Act.eval (frm _ _ _ [])) _) _)
        simp only[frm]
        have hbk:=HMB9.out.below hb1 HMB9.out.lt
        have c0:w1.cell? ⟨Nm,0,none⟩=some (.pointer (some ⟨g1,0,none⟩)):=hbk.cell 0
        have c1:w1.cell? ⟨Nm,1,none⟩=some (.pointer (some ⟨gy,0,none⟩)):=hbk.cell 1
        clear hbk
        go_simp
        exact adds_val rfl
       ·clear hgr
        change Made _ (Adds _ _ _) (Sem.run _ (execOp (Act.eval (frm _ _ _ [])) _) _)
        simp only[frm]
        go_simp
        exact adds_val rfl
       ·clear hgr
        change Made _ (Adds _ _ _) (Sem.run _ (execOp (Act.eval (frm _ _ _ [])) _) _)
        simp only[frm]
        go_simp
        exact adds_val rfl
       ·clear hgr
        change Made _ (Adds _ _ _) (Sem.run _ (execOp (Act.eval (frm _ _ _ [])) _) _)
        simp only[frm]
        go_simp
        exact adds_val rfl
       ·have h2:vs 2=_:=hgr 2 (by decide)
        have h3:vs 3=_:=hgr 3 (by decide)
        clear hgr
        change Made _ (Adds _ _ _) (Sem.run _ (execOp (Act.eval (Act.put (Act.put (frm _ _ _ []) (some 78) (vs 3)) (some 77) (vs 2))) _) _)
        simp only[frm,h2,h3]
        have cM:=moved_any (HV9.out.below hb1) HXU.out
        rw[HMV.out] at cM
        go_simp
        exact adds_below cM
      intro vs w1 hb1 hall hap
      have h0:vs 0=_:=(hall 0 (by omega)).1
      have h1:vs 1=_:=(hall 1 (by omega)).1
      have h4:vs 4=_:=(hall 4 (by omega)).1
      clear hall hap
      change wpList _ _ _ [_] (Act.put (Act.put (Act.put (Act.put (Act.put (frm _ _ _ []) (some 79) (vs 4)) (some 78) (vs 3)) (some 77) (vs 2)) (some 76) (vs 1)) (some 75) (vs 0)) _
      simp only[frm,h0,h1,h4]
      have HV10:=lh (HV9.out.below hb1)
      have HKP10:=lh (HKP9.out.trans (Kp.of_below (S:=memS V1' V2) hb1) fun _ _ e=>e)
      have cSt:=MStore_any HV10.out.mr a HYU.out
      unfold memV at cSt
      clear hb1 h0 h1 h4 HV9 HMB9 HKP9
      go_wp2_with fail
      refine cSt.mono ?_
      rintro e w11 ⟨rfl,hm11,hk11⟩
      have HV11:=lh (HV10.out.kpM hm11 hk11)
      have HKP11:=lh (HKP10.out.trans hk11 fun _ _ e=>e)
      clear cSt hm11 hk11
      go_wp2_with fail
      simp only[normalTo]
      refine phase2_end rfl ?_
      go_wp2_with fail
      refine⟨⟨j+1,by go_num,by omega,?_,HKP11.out⟩,?_⟩
      ·have h9:=HV11.out
       have e9:((m.mid (m.upd L (m.plc m.old.top L) (CR_.take j) m.old.ws) (m.zI L (m.plc m.old.top L) 0)).store a y).2=m.mid (m.upd L (m.plc m.old.top L) (CR_.take (j+1)) m.old.ws) (m.zI L (m.plc m.old.top L) 0):=HPUT.out
       rw[e9] at h9
       exact h9
      ·simp[intOf];omega
     ·obtain rfl:j=CR_.length:=by omega
      rw[List.take_length] at hv
      have hu:=HCO.out.upd CR_.length
      rw[List.take_length] at hu
      have HUF:=lh hu
      have HV:=lh hv
      clear hu hv hkp HRR hlt hmS hj
      obtain⟨UF,hUF⟩:∃ UF,UF=m.upd L (m.plc m.old.top L) CR_ m.old.ws:=⟨_,rfl⟩
      rw[← hUF] at HV HUF
      have HUFD:=lh hUF
      have HMVF:Hid (∀ Z,LaidZ m L Z→∀ x,m.Met L x→(m.mid UF Z).mvd L (m.plc m.old.top L) x=m.mvd L (m.plc m.old.top L) x):=lh fun Z hz x hx=>by
       have:=HCO.out.mvd CR_.length hz hx
       rw[List.take_length,← hUF] at this
       exact this
      clear hUF
      have hww:w8.heap.size≤wr.heap.size:=HKP.out.size
      go_wp2_with fail
      go_loopw [84] (fun i wr=>∃ j:Nat,i=.int .i64 (j:Int)∧j≤L.length∧MvW wr B1 Nm Nt bt2 nt2 g1 gy V1' V2 (m.mid UF (m.zI L (m.plc m.old.top L) j)) L (m.plc m.old.top L)∧LaidZ m L (m.zI L (m.plc m.old.top L) j)∧Kp (memS V1' V2) w8 wr) (fun i _=>L.length - (intOf i).toNat)
      case atStart=>exact⟨0,rfl,Nat.zero_le _,HV.out,HZ0.out,HKP.out⟩
      case round =>
       clear HV HKP HOR hww
       obtain⟨j,rfl,hj,hv,hz,hkp⟩:=hrel
       have HV:=lh hv
       have HZ:=lh hz
       have HKP:=lh hkp
       have hmS:∀ q,memS V1' V2 q→∃ cs,Bk w8 q 54 cs:=fun q e=>e.elim HV8.out.mr.o.own_cells HV8.out.mr.y.own_cells
       have HOR:=lh (own_local HO8.out (w':=wr) fun k hk=>hkp.block k (HO8.out.lt k hk).2 fun e=>by obtain⟨cs,hb⟩:=hmS _ e;exact ownRow_bk HO8.out hb (by decide) hk)
       by_cases hlt:j < L.length
       ·obtain⟨bb,oo,rfl,hb1,hc1⟩:=(own_sl HOR.out).get hlt
        have t1:L[j]?=some L[j]:=List.getElem?_eq_getElem hlt
        have e1:wr.cell? ⟨bb,oo+j,none⟩=some (.int .i64 L[j]):=hc1 j _ (ints_get t1)
        have hmem:L[j]∈L:=List.getElem_mem hlt
        generalize L[j]=a at e1 t1 hmem
        have hra:=HRG.out a hmem
        have hcp:CpI m L UF j a:=⟨HCO.out.ok,HCO.out.hl,HUF.out,HCO.out.hf,t1,fun x hx=>HMT.out.2.2 a hmem x hx⟩
        have cC:=copyObject_any hcp HZ.out HV.out
        have hlk:=HV.out.mp.look hKI hKI hMI hZI (x:=a) (WalkArith.wf_i64 (by omega))
        rw[show naF L (m.plc m.old.top L) a=some (m.old.top+m.need (L.take j)) from by
         unfold naF
         rw[if_pos (by simpa using hmem),m.plc_at HCO.out.hl.nd t1],Option.getD_some] at hlk
        have hcc:j < c1:=by omega
        have m0c:wr.cell? ⟨Nm,0,none⟩=some (.pointer (some ⟨g1,0,none⟩)):=hv.bm.cell 0
        have m1c:wr.cell? ⟨Nm,1,none⟩=some (.pointer (some ⟨gy,0,none⟩)):=hv.bm.cell 1
        have t0c:wr.cell? ⟨Nt,0,none⟩=some (.map (some bt2)):=hv.bt.cell 0
        obtain⟨na,hna⟩:∃ na,na=m.old.top+m.need (L.take j):=⟨_,rfl⟩
        rw[← hna] at hlk cC
        clear hc1 t1 hv hz hkp hmem hcp hna hb1 hmS
        go_wp2_with fail
        refine cC.mono ?_
        rintro e w9 ⟨rfl,hv9,hz9,hk9⟩
        have HV9:=lh hv9
        have HZ9:=lh hz9
        have HK9:=lh (HKP.out.trans hk9 fun _ _ e=>e)
        clear cC hv9 hz9 hk9 hlk m0c m1c t0c
        go_wp2_with fail
        go_roundw
        case rel=>exact⟨j+1,by go_num,by omega,HV9.out,HZ9.out,HK9.out⟩
        case measure=>simp[intOf];omega
       ·obtain rfl:j=L.length:=by omega
        have HOR0:=HOR
        clear hv hz hlt hj
        have hww:w8.heap.size≤wr.heap.size:=hkp.size
        have HAR:Hid (∀ b' o,A=some ⟨b',o,none⟩→wr.heap[b']?=w.heap[b']?∧b' < wr.heap.size):=lh fun b' o e=>by
         obtain⟨a1,a2,a3,a4⟩:=HA.out b' o e
         refine⟨(hkp.block b' (by omega) fun e=>?_).trans (HK8.out.block b' a1 fun e=>e.elim a2 a3),by omega⟩
         rcases e with e | e
         ·rcases HVO.out b' e with e | e
          ·exact a3 e
          ·omega
         ·exact a4 e
        obtain⟨w10,hw10⟩:∃ w10,w10=wr:=⟨_,rfl⟩
        rw[← hw10] at HV HKP HOR HAR hww ⊢
        obtain⟨i0,hi,hz0,hz1,hz2⟩:=info_parts i_word
        have HI:=lh (And.intro hi (And.intro hz0 (And.intro hz1 hz2)))
        clear hkp hmS HOR0 hw10 hi hz0 hz1 hz2
        go_wp2_with fail
        go_loopw [23,98] (fun v i wr=>∃ j:Nat,i=.int .i64 (j:Int)∧j≤roots.length∧wr.ownsRow w10.heap.size 54 1 v j (wds ((roots.take j).map (m.mvd L (m.plc m.old.top L))))∧Below w10.heap.size w10 wr) (fun _ i _=>roots.length - (intOf i).toNat)
        case atStart=>exact⟨0,rfl,Nat.zero_le _,World.ownsRow_nil _ _ _ _,Below.refl _ _⟩
        case round =>
         obtain⟨j,rfl,hj,hown,hbr⟩:=hrel
         have HOWN:=lh hown
         have HBR:=lh hbr
         have HV12:=lh (HV.out.below hbr)
         have hsz12:=hbr.size
         by_cases hlt:j < roots.length
         ·obtain⟨bb,oo,rfl,hb1,hc1⟩:=HSL.out.get hlt
          have t1:roots[j]?=some roots[j]:=List.getElem?_eq_getElem hlt
          have e0:w.cell? ⟨bb,oo+j,none⟩=some (.int .u64 roots[j]):=hc1 j _ (wds_get t1)
          obtain⟨ea,eb⟩:=HAR.out bb oo rfl
          have e1:wr.cell? ⟨bb,oo+j,none⟩=some (.int .u64 roots[j]):=(World.cell?_of_block (w:=w) (a:=⟨bb,oo+j,none⟩) ((hbr.block bb eb).trans ea)).trans e0
          have hmet:=HMT.out.1 roots[j] (List.getElem_mem hlt)
          have hxu:=HRU.out roots[j] (List.getElem_mem hlt)
          have HTK:=lh (show(roots.take (j+1)).map (m.mvd L (m.plc m.old.top L))=(roots.take j).map (m.mvd L (m.plc m.old.top L))++[m.mvd L (m.plc m.old.top L) roots[j]] by rw[List.take_add_one,t1,List.map_append];rfl)
          generalize roots[j]=x at e1 t1 hmet hxu HTK e0
          have cM:=moved_any HV12.out hxu
          rw[HMVF.out _ HZ.out x hmet] at cM
          obtain⟨y,hy⟩:∃ y,y=m.mvd L (m.plc m.old.top L) x:=⟨_,rfl⟩
          rw[← hy] at cM HTK
          have hcc:j < c:=by omega
          obtain⟨Av,cv,rfl,hcv⟩:=own_shape hown
          clear hc1 t1 e0 hmet hxu hy hown hbr ea eb hb1
          go_wp2_with (first | (go_at_call 57;refine cM.mono ?_;rintro e w13 ⟨rfl,hb13⟩;have HB13:=lh (HBR.out.trans (hb13.mono hsz12));have HOW13:=lh (own_local HOWN.out (w':=w13) fun k hk=>hb13.block k (HOWN.out.lt k hk).2);have hsz13:=HB13.out.size;clear hb13) | (at_builtin;refine wpList_append_own_at _ rfl (.tmp 102) (.tmp 106) 31 rfl w10.heap.size 54 i0 (.int .u64 0) 1 8 Tryz.underlying31 HI.out.1 HI.out.2.1 HI.out.2.2.1 HI.out.2.2.2 rfl (by decide) _ j _ rfl (HOW13.out.alloc _) ⟨w13.heap.size,0,none⟩ 1 1 [.int .u64 y] rfl rfl (cell_one_new _ _ _) (by simp[Value.oneCell']) (by unfold maxLen;omega) (by omega) (by simp;omega) ?_;intro v' w14 hown3 hg3 _ hloc;have HOWN3:=lh hown3;have HG3:=lh hg3;clear hown3 hg3 hloc))
          go_roundw
          case rel =>
           refine⟨j+1,by go_num,by omega,?_,?_⟩
           ·rw[HTK.out,show wds ((roots.take j).map (m.mvd L (m.plc m.old.top L))++[y])=wds ((roots.take j).map (m.mvd L (m.plc m.old.top L)))++[.int .u64 y] by simp[wds]]
            exact HOWN3.out
           ·exact(HB13.out.alloc (by omega) _).grown HG3.out (by simp;omega) (fun k hk=>(HOW13.out.lt k hk).1)
          case measure=>simp[intOf];omega
         ·obtain rfl:j=roots.length:=by omega
          obtain⟨Av,cv,rfl,hcv⟩:=own_shape hown
          have hOF:=HOWN.out
          rw[List.take_length] at hOF
          have HOF:=lh hOF
          have HMB12:=lh HV12.out.bm
          have HYW12:Hid (SpR wr B1 gy m.yng V2):=lh HV12.out.mr.y
          clear hOF hown hbr hlt hj HOR HI
          go_upto_region 27 with fail
          refine wp_region_first 5 (fun i=>([[],[0],[],[2],[3]]:List (List Nat)).getD i []) (EL [Ent.val (.pointer (some ⟨Nm,1,none⟩)),Ent.val (.pointer (some ⟨gy,0,none⟩)),Ent.val (.pointer (some ⟨Nm,1,none⟩)),Ent.val (.pointer (some ⟨gy,0,none⟩)),Ent.val (.int .i64 m.yng.base)]) rfl (by kernel_rfl) (by kernel_rfl) (by kernel_rfl) (by rfl) ?_ ?_
          ·intro i hi o ho vs w1 hb1 hgr
           rcases (show i=0 ∨ i=1 ∨ i=2 ∨ i=3 ∨ i=4 by omega) with rfl | rfl | rfl | rfl | rfl <;> cases ho
           ·clear hgr
            change Made _ (Adds _ _ _) (Sem.run _ (execOp (Act.eval (frm _ _ _ [])) _) _)
            simp only[frm]
            go_simp
            exact adds_val rfl
           ·have h0:vs 0=_:=hgr 0 (by decide)
            clear hgr
            change Made _ (Adds _ _ _) (Sem.run _ (execOp (Act.eval (Act.put (frm _ _ _ []) (some 109) (vs 0))) _) _)
            simp only[frm,h0]
            have hbk:=HMB12.out.below hb1 HMB12.out.lt
            have c0:w1.cell? ⟨Nm,1,none⟩=some (.pointer (some ⟨gy,0,none⟩)):=hbk.cell 1
            clear hbk
            go_simp
            exact adds_val rfl
           ·clear hgr
            change Made _ (Adds _ _ _) (Sem.run _ (execOp (Act.eval (frm _ _ _ [])) _) _)
            simp only[frm]
            go_simp
            exact adds_val rfl
           ·have h2:vs 2=_:=hgr 2 (by decide)
            clear hgr
            change Made _ (Adds _ _ _) (Sem.run _ (execOp (Act.eval (Act.put (frm _ _ _ []) (some 111) (vs 2))) _) _)
            simp only[frm,h2]
            have hbk:=HMB12.out.below hb1 HMB12.out.lt
            have c0:w1.cell? ⟨Nm,1,none⟩=some (.pointer (some ⟨gy,0,none⟩)):=hbk.cell 1
            clear hbk
            go_simp
            exact adds_val rfl
           ·have h3:vs 3=_:=hgr 3 (by decide)
            clear hgr
            change Made _ (Adds _ _ _) (Sem.run _ (execOp (Act.eval (Act.put (frm _ _ _ []) (some 112) (vs 3))) _) _)
            simp only[frm,h3]
            have cB:=Base_any (HYW12.out.below hb1)
            go_simp
            exact adds_still cB
          intro vs w1 hb1 hall hap
          have h1:vs 1=_:=(hall 1 (by omega)).1
          have h4:vs 4=_:=(hall 4 (by omega)).1
          clear hall hap
          change wpList _ _ _ [_] (Act.put (Act.put (Act.put (Act.put (Act.put (frm _ _ _ []) (some 113) (vs 4)) (some 112) (vs 3)) (some 111) (vs 2)) (some 110) (vs 1)) (some 109) (vs 0)) _
          simp only[frm,h1,h4]
          have HV13:=lh (HV12.out.below hb1)
          have HYW13:Hid (SpR w1 B1 gy m.yng V2):=lh HV13.out.mr.y
          have HB13:=lh (HBR.out.trans (hb1.mono hsz12))
          have HOF13:=lh (own_local HOF.out (w':=w1) fun k hk=>hb1.block k (HOF.out.lt k hk).2)
          have cT:Calls Tryz.prog 61 #[.pointer (some ⟨gy,0,none⟩),.int .i64 m.yng.base] w1 (TruP w1 B1 gy m.yng V2):=by
           by_cases hz:m.yng.ws=[]
           ·exact TruncE_base HYW13.out hz
           ·refine Truncate_base HYW13.out fun h0=>hz ?_
            have h1:=HCK.out
            have e:m.yng.walk=m.yng.walkFrom 0:=rfl
            unfold Spc.chk at h1
            rw[e,Spc.walkFrom_zero m.yng h0] at h1
            split at h1
            ·rename_i h2
             exact List.length_eq_zero_iff.1 h2.symm
            ·cases h1
          clear hb1 h1 h4 HV12 HMB12 HYW12 HBR HOWN HOF
          go_wp2_with fail
          refine cT.mono ?_
          rintro e w14 ⟨rfl,V2',hsp14,hvo14,hk14⟩
          have HSP14:=lh hsp14
          have HVO14:=lh hvo14
          have HK14:=lh hk14
          clear cT hsp14 hvo14 hk14
          go_wp2_with fail
          simp only[normalTo]
          refine phase2_end rfl ?_
          have HTOT:Hid (Kp (fun q=>q=g1 ∨ q=gy ∨ V1.ownBlock=some q ∨ V2.ownBlock=some q) w w14):=lh ((((HK8.out.mono (T:=fun q=>q=g1 ∨ q=gy ∨ V1.ownBlock=some q ∨ V2.ownBlock=some q) fun q _ e=>e.elim .inl fun e=>.inr (.inr (.inl e))).trans HKP.out fun q hq e=>e.elim (fun e=>(HVO.out q e).elim (fun e=>.inr (.inr (.inl e))) fun e=>by omega) fun e=>.inr (.inr (.inr e))).trans (Kp.of_below (S:=fun q=>q=g1 ∨ q=gy ∨ V1.ownBlock=some q ∨ V2.ownBlock=some q) HB13.out) fun _ _ e=>e).trans HK14.out fun q _ e=>.inr (.inl e))
          have hnS:∀ {q:Nat} {t:TypeId} {C:Array Value},Bk w q t C→t≠123→t≠54→¬ (q=g1 ∨ q=gy ∨ V1.ownBlock=some q ∨ V2.ownBlock=some q):=fun hb t1 t2 e=>by
           rcases e with rfl | rfl | e | e
           ·exact Bk.neT hb H.out.o.hd t1 rfl
           ·exact Bk.neT hb H.out.y.hd t1 rfl
           ·exact H.out.o.own_ne hb t2 e
           ·exact H.out.y.own_ne hb t2 e
          have HC14:=lh (HCR0.out.kp HTOT.out (hnS HCR0.out.hd (by decide) (by decide)) fun e=>by
           rcases e with e | e | e | e
           ·exact HCR0.out.mp.neB H.out.o.hd e.symm
           ·exact HCR0.out.mp.neB H.out.y.hd e.symm
           ·exact HCR0.out.mp.neO H.out.o.own e
           ·exact HCR0.out.mp.neO H.out.y.own e)
          clear hnS
          have cC:=Clear_any HC14.out
          go_wp2_with fail
          refine cC.mono ?_
          rintro e w15 ⟨rfl,hc15,hk15⟩
          have HC15:=lh hc15
          have HK15:=lh hk15
          clear cC hc15 hk15
          go_wp2_with fail
          go_ret3
          rw[HQ.out,HCOL.out,if_neg (by simp),if_neg (by omega)]
          have ez:m.zI L (m.plc m.old.top L) L.length=L.flatMap (m.cpy L (m.plc m.old.top L)):=by unfold Mm.zI;rw[List.take_length,List.drop_length];simp
          have hv:=HV13.out.mr
          rw[HUFD.out,ez] at hv
          have hvol:∀ q,V1'.ownBlock=some q→q≠gy∧V2'.ownBlock≠some q:=fun q hq=>⟨fun e=>by
            subst e
            exact hv.o.own_ne hv.y.hd (by decide) hq,fun e=>hv.vv q hq (HVO14.out q e)⟩
          have hbt15:∀ q t C,Bk w14 q t C→q≠bt:=fun q t C hb=>HC14.out.mp.neB hb
          have hO14:SpR w14 B1 g1 (m.mid (m.upd L (m.plc m.old.top L) CR_ m.old.ws) (L.flatMap (m.cpy L (m.plc m.old.top L)))).old V1':=hv.o.kp HK14.out (fun e=>hv.gg e) fun q hq e=>(hvol q hq).1 e
          have hO15:=hO14.kp HK15.out (fun e=>hbt15 _ _ _ hO14.hd e) fun q hq e=>by
           obtain⟨C,hb⟩:=hO14.own_cells hq
           exact hbt15 _ _ _ hb e
          have hY15:=HSP14.out.kp HK15.out (fun e=>hbt15 _ _ _ HSP14.out.hd e) fun q hq e=>by
           obtain⟨C,hb⟩:=HSP14.out.own_cells hq
           exact hbt15 _ _ _ hb e
          have hvw:∀ q,(Value.slice Av roots.length cv).ownBlock=some q→w10.heap.size≤q∧q < w1.heap.size:=fun q hq=>HOF13.out.lt q hq
          have hol:∀ q,V1'.ownBlock=some q ∨ V2.ownBlock=some q ∨ q=gy ∨ q=bt→q < w10.heap.size:=fun q hq=>by
           rcases hq with e | e | e | e
           ·exact(HV.out.mr.o.own.lt q e).2
           ·exact(HV.out.mr.y.own.lt q e).2
           ·have:=HV.out.mr.y.hd.lt;omega
           ·have:=HCR0.out.mp.lt;have:=hB8;omega
          refine⟨_,V1',V2',0,rfl,?_,⟨hO15,hY15,⟨⟨hO15.u,hO15.b0,hO15.lim,hO15.l0⟩,⟨hY15.u,hY15.b0,hY15.lim,hY15.l0⟩,hv.ok.ob,hv.ok.ol,hv.ok.yb⟩,hv.gg,fun q hq=>(hvol q hq).2⟩,HC15.out,⟨HVO.out,HVO14.out,fun q hq=>⟨fun e=>by have h1:=hvw q hq;have h2:=hol q (.inl e);omega,fun e=>by have h1:=hvw q hq;have h2:=hol q (.inr (.inl (HVO14.out q e)));omega⟩⟩,(HTOT.out.mono fun q _ e=>?_).trans HK15.out fun q _ e=>.inr (.inr (.inr (.inr e))),.inr rfl⟩
          ·have h9:=own_local (own_local HOF13.out (w':=w14) fun k hk=>HK14.out.block k (HOF13.out.lt k hk).2 fun e=>by have h1:=hvw k hk;have h2:=hol k (.inr (.inr (.inl e)));omega) (w':=w15) fun k hk=>HK15.out.block k (by have:=(hvw k hk).2;have:=HK14.out.size;omega) fun e=>by have h1:=hvw k hk;have h2:=hol k (.inr (.inr (.inr e)));omega
           have h8:=ownsRow_mono h9 (show w.heap.size≤w10.heap.size by omega)
           have e8:(roots.map (m.mvd L (m.plc m.old.top L))).length=roots.length:=List.length_map _
           show World.ownsRow _ _ _ _ _ (roots.map (m.mvd L (m.plc m.old.top L))).length _
           rw[e8]
           exact h8
          ·rcases e with e | e | e | e
           ·exact .inl e
           ·exact .inr (.inl e)
           ·exact .inr (.inr (.inl e))
           ·exact .inr (.inr (.inr (.inl e)))
   ·replace cP:=cP.mono (fun e w5 h=>And.intro h.1 (h.2.2 hfit))
    go_wp2_with fail
    refine cP.mono ?_
    rintro e w5 ⟨hsz5,rfl,j5,hb5,_⟩
    clear cP
    go_wp2_with fail
    simp only[normalTo]
    refine phase2_all 6 11 (fun i=>([[],[],[1],[2],[],[0,3,4],[5],[6],[6],[7],[8]]:List (List Nat)).getD i []) (EL [Ent.val (.agg #[.pointer (some ⟨g1,0,none⟩),.pointer (some ⟨gy,0,none⟩)]),Ent.val (.pointer (some ⟨Nm,0,none⟩)),Ent.val (.pointer (some ⟨g1,0,none⟩)),Ent.val (.pointer (some ⟨gc,0,none⟩)),Ent.val (.slice A1 L.length c1),Ent.val (.tuple #[.map none,.int .i64 8]),Ent.val (.tuple #[.map none,.int .i64 8]),Ent.val (.map none),Ent.val (.int .i64 8),Ent.val (.map none),Ent.val (.int .i64 8)]) (by kernel_rfl) rfl (by omega) (by kernel_rfl) (by kernel_rfl) (by rfl) ?_ ?_ ?_
    ·intro i hi
     rcases (show i=0 ∨ i=1 ∨ i=2 ∨ i=3 ∨ i=4 ∨ i=5 by omega) with rfl | rfl | rfl | rfl | rfl | rfl <;> exact⟨rfl,fun _=>rfl⟩
    ·intro i hmi hi o ho vs w1 hb1 hgr
     rcases (show i=6 ∨ i=7 ∨ i=8 ∨ i=9 ∨ i=10 by omega) with rfl | rfl | rfl | rfl | rfl <;> cases ho
     ·have h5:vs 5=_:=hgr 5 (by decide)
      clear hgr
      change Made _ (Adds _ _ _) (Sem.run _ (execOp (Act.eval (Act.put (frm _ _ _ []) (some 49) (vs 5))) _) _)
      simp only[frm,h5]
      go_simp
      exact adds_val rfl
     ·have h6:vs 6=_:=hgr 6 (by decide)
      clear hgr
      change Made _ (Adds _ _ _) (Sem.run _ (execOp (Act.eval (Act.put (frm _ _ _ []) (some 43) (vs 6))) _) _)
      simp only[frm,h6]
      go_simp
      exact adds_val rfl
     ·have h6:vs 6=_:=hgr 6 (by decide)
      clear hgr
      change Made _ (Adds _ _ _) (Sem.run _ (execOp (Act.eval (Act.put (frm _ _ _ []) (some 43) (vs 6))) _) _)
      simp only[frm,h6]
      go_simp
      exact adds_val rfl
     ·have h7:vs 7=_:=hgr 7 (by decide)
      clear hgr
      change Made _ (Adds _ _ _) (Sem.run _ (execOp (Act.eval (Act.put (frm _ _ _ []) (some 50) (vs 7))) _) _)
      simp only[frm,h7]
      go_simp
      exact adds_val rfl
     ·have h8:vs 8=_:=hgr 8 (by decide)
      clear hgr
      change Made _ (Adds _ _ _) (Sem.run _ (execOp (Act.eval (Act.put (frm _ _ _ []) (some 51) (vs 8))) _) _)
      simp only[frm,h8]
      go_simp
      exact adds_val rfl
    intro vs w1 hb1 hall hap
    have h9:vs 9=_:=(hall 9 (by omega)).1
    have h10:vs 10=_:=(hall 10 (by omega)).1
    clear hall hap
    change wpList _ _ _ [] (Act.put (Act.put (Act.put (Act.put (Act.put (Act.put (Act.put (Act.put (Act.put (Act.put (Act.put (frm _ _ _ []) (some 13) (vs 10)) (some 12) (vs 9)) (some 51) (vs 8)) (some 50) (vs 7)) (some 43) (vs 6)) (some 49) (vs 5)) (some 48) (vs 4)) (some 47) (vs 3)) (some 46) (vs 2)) (some 45) (vs 1)) (some 44) (vs 0)) _
    simp only[frm,h9,h10]
    have hb46:Below w4.heap.size w4 w1:=hb5.trans (hb1.mono hb5.size)
    have HE:=lh (HQE.out 8 w1 (HB4.out.trans (hb46.mono HB4.out.size)) (by rw[HCOL.out,if_neg (by simp),if_pos (by omega)]))
    clear HCOL HQE hb5 hb1 hb46 hsz5 h9 h10
    go_wp2_with fail
    go_ret3
    exact HE.out
  ·have HE:=lh (HQE.out 11 w2 HB2.out (by rw[HCOL.out,if_pos (.inr hk0)]))
   clear HCOL HQE
   go_wp2_with fail
   go_ret3
   exact HE.out
end
end
end Go.Proofs.YtaijmgkjbbiboaaGreat
