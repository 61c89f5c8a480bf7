/- Parts of the proof: RNurB. -/
import Derived.Test.YtaijmgkjbbiboaaGreatPcA
import Derived.Test.YtaijmgkjbbiboaaGreatPc23
import Derived.Test.YtaijmgkjbbiboaaGreatPc32
set_option linter.unusedVariables false
set_option linter.unusedSimpArgs false
set_option linter.unusedSectionVars false
set_option maxRecDepth 100000
namespace Go.Proofs.YtaijmgkjbbiboaaGreat
section
open Go.RowKit Go.Sort
attribute [local go_sem] Oper.semAt_some onlyN_normal
def AddP (w0 w:World) (V:Value) (p:List Int × Bool) (e:Ending) (w':World):Prop:=∃ v,e=.returned (.tuple #[v,.bool p.2])∧w'.ownsRow w0.heap.size 3 1 v p.1.length (ints p.1)∧Kp (fun k=>V.ownBlock=some k) w w'∧∀ q,v.ownBlock=some q→V.ownBlock=some q ∨ w.heap.size≤q
section
variable {w0 w:World} {m:Mm} {A1 A2 Al Aw:Option Addr} {u1 u2 cl cw:Nat} {l ws:List Int}
set_option maxHeartbeats 8000000 in
theorem Radd_any (h:RM w0 m A1 u1 A2 u2) (ok:m.Ok) (hb0:Below w0.heap.size w0 w) (ho:w.ownsRow w0.heap.size 3 1 (.slice Al l.length cl) l.length (ints l)) (hs:Sl w 1 Aw ws.length (wds ws)) (hsc:ws.length≤cw) (hu:∀ x∈ws,U64 x) (hAw:∀ b o,Aw=some ⟨b,o,none⟩→(Value.slice Al l.length cl).ownBlock≠some b) (hoi:m.OrdI l) (hm:m.size≤40000000) (hwl:ws.length≤1000000000) :
  Calls Tryz.prog 81 #[.agg (rmC m A1 u1 A2 u2),.slice Al l.length cl,.slice Aw ws.length cw] w (AddP w0 w (.slice Al l.length cl) (ws.foldl m.ord1 (l,false))):=by
 have hbx:Below w.heap.size w (w.alloc (.cells (rmC m A1 u1 A2 u2) 35)):=(Below.refl _ _).alloc (Nat.le_refl _) _
 have HMB0:Hid (Bk (w.alloc (.cells (rmC m A1 u1 A2 u2) 35)) w.heap.size 35 (rmC m A1 u1 A2 u2)):=lh (Bk.new _ _ _)
 have HO0:=lh (own_local ho fun k hk=>hbx.block k (ho.lt k hk).2)
 have HK0:Hid (Kp (fun k=>(Value.slice Al l.length cl).ownBlock=some k) w (w.alloc (.cells (rmC m A1 u1 A2 u2) 35))):=lh (Kp.of_below hbx)
 have hvl:∀ k,(Value.slice Al l.length cl).ownBlock=some k→w0.heap.size≤k:=fun k hk=>(ho.lt k hk).1
 have HVL:=lh hvl
 have HS:=lh hs
 have HU:=lh hu
 have HAW:=lh hAw
 have HB0:=lh hb0
 have HOI:=lh hoi
 have HOK:=lh ok
 have hml:m.yng.ws.length≤40000000:=by unfold Mm.size at hm;omega
 obtain⟨i0,hi,hz0,hz1,hz2⟩:=info_parts Tryz.infoI
 have HI:=lh (And.intro hi (And.intro hz0 (And.intro hz1 hz2)))
 obtain⟨Q,hQ⟩:∃ Q,Q=AddP w0 w (.slice Al l.length cl) (ws.foldl m.ord1 (l,false)):=⟨_,rfl⟩
 rw[← hQ]
 have HQ:=lh hQ
 have cL0:=fun {w9:World} (hb:Below w0.heap.size w0 w9) {x:Int} (hx:U64 x)=>Rleads_any (h.below hb) ok hx
 have HCL:=lh (fun(w9:World) (hb:Below w0.heap.size w0 w9) (x:Int) (hx:U64 x)=>cL0 hb hx)
 have hw0:=hb0.size
 clear h ho hs hu hAw hb0 hoi ok hbx hvl hi hz0 hz1 hz2 hQ cL0 hm
 go_enter Tryz.func81,Tryz.ntmps81
 go_upto_region 1 with fail
 generalize w.alloc (.cells (rmC m A1 u1 A2 u2) 35)=wB at *
 obtain⟨Nm,hNm⟩:∃ Nm,Nm=w.heap.size:=⟨_,rfl⟩
 rw[← hNm] at HMB0 ⊢
 clear hNm
 go_wp2_with fail
 go_loopw [1,8,9] (fun v b i wr=>∃ (j:Nat) (p:List Int × Bool),i=.int .i64 (j:Int)∧b=.bool p.2∧j≤ws.length∧p=(ws.take j).foldl m.ord1 (l,false)∧m.OrdI p.1∧wr.ownsRow w0.heap.size 3 1 v p.1.length (ints p.1)∧Kp (fun k=>(Value.slice Al l.length cl).ownBlock=some k) w wr∧(∀ q,v.ownBlock=some q→(Value.slice Al l.length cl).ownBlock=some q ∨ w.heap.size≤q)∧Bk wr Nm 35 (rmC m A1 u1 A2 u2)) (fun _ _ i _=>ws.length - (intOf i).toNat)
 case atStart=>exact⟨0,(l,false),rfl,rfl,Nat.zero_le _,rfl,HOI.out,HO0.out,HK0.out,fun q hq=>.inl hq,HMB0.out⟩
 case round =>
  clear HO0 HK0 HMB0
  obtain⟨j,p,rfl,rfl,hj,hp,hoi,hown,hkp,hvo,hbm⟩:=hrel
  have HP:=lh hp
  have HOI2:=lh hoi
  have HOW:=lh hown
  have HK:=lh hkp
  have HVO:=lh hvo
  have HMB:=lh hbm
  have hbw:Below w0.heap.size w0 wr:=hkp.toBelow HB0.out hw0 fun k hk=>HVL.out k hk
  have HBW:=lh hbw
  have hbws:=hbw.size
  obtain⟨A0,k0,rfl,hk0⟩:=own_shape hown
  have hln:=hoi.len HOK.out
  by_cases hlt:j < ws.length
  ·obtain⟨bb,oo,rfl,hb1,hc1⟩:=HS.out.get hlt
   have t1:ws[j]?=some ws[j]:=List.getElem?_eq_getElem hlt
   have e0:w.cell? ⟨bb,oo+j,none⟩=some (.int .u64 ws[j]):=hc1 j _ (wds_get t1)
   have e1:wr.cell? ⟨bb,oo+j,none⟩=some (.int .u64 ws[j]):=(World.cell?_of_block (w:=w) (a:=⟨bb,oo+j,none⟩) (hkp.block bb hb1 (HAW.out bb oo rfl))).trans e0
   have hxu:=HU.out ws[j] (List.getElem_mem hlt)
   have hbl:bb < wr.heap.size:=Nat.lt_of_lt_of_le hb1 hkp.size
   have hst:(ws.take (j+1)).foldl m.ord1 (l,false)=m.ord1 p ws[j]:=by rw[hp,List.take_add_one,t1,List.foldl_append];rfl
   have hoi2:=Mm.ord1_I hoi ws[j]
   generalize ws[j]=x at e1 t1 hxu hst e0 hoi2
   have HST:=lh hst
   have HOI3:=lh hoi2
   have HE1:=lh (And.intro hbl e1)
   have hcj:j < cw:=by omega
   have cL1:=fun(w9:World) (hb:Below w0.heap.size w0 w9)=>HCL.out w9 hb x hxu
   obtain⟨r,o,d,hrl⟩:∃ r o d,rldP (m.ld x)=.tuple #[.int .i64 r,.bool o,.bool d]:=by
    cases m.ld x with
    | none=>exact⟨_,_,_,rfl⟩
    | some y=>cases y with
     | none=>exact⟨_,_,_,rfl⟩
     | some z=>exact⟨_,_,_,rfl⟩
   rw[hrl] at cL1
   have HRL:=lh hrl
   have cL:=fun {w9:World} hb=>cL1 w9 hb
   clear hp hoi hown hkp hvo hbm hbw hc1 t1 e0 e1 hxu hst hoi2 hb1 hbl cL1 hrl
   go_upto_region 5 with fail
   refine wp_region_all 13 (fun i=>([[],[],[],[1,2],[3],[0,4],[5],[6],[6],[6],[7],[8],[9]]:List (List Nat)).getD i []) (EL [Ent.val (.agg #[.int .i64 m.old.base,.int .i64 m.old.limit,.slice A1 m.old.ws.length u1,.int .i64 m.yng.base,.int .i64 m.yng.limit,.slice A2 m.yng.ws.length u2]),Ent.val (.slice (some ⟨bb,oo,none⟩) ws.length cw),Ent.val (.int .i64 (j:Int)),Ent.val (.pointer (some ⟨bb,oo+j,none⟩)),Ent.val (.int .u64 x),Ent.val (.tuple #[.int .i64 r,.bool o,.bool d]),Ent.val (.tuple #[.int .i64 r,.bool o,.bool d]),Ent.val (.int .i64 r),Ent.val (.bool o),Ent.val (.bool d),Ent.val (.int .i64 r),Ent.val (.bool o),Ent.val (.bool d)]) rfl (by kernel_rfl) (by rfl) (by kernel_rfl) (by kernel_rfl) (by rfl) ?_ ?_
   ·intro i hi o ho vs w1 hb1 hgr
    rcases (show i=0 ∨ i=1 ∨ i=2 ∨ i=3 ∨ i=4 ∨ i=5 ∨ i=6 ∨ i=7 ∨ i=8 ∨ i=9 ∨ i=10 ∨ i=11 ∨ i=12 by omega) with rfl | rfl | rfl | rfl | rfl | rfl | rfl | rfl | rfl | rfl | rfl | rfl | rfl <;> cases ho
    ·clear hgr
     change Made _ (Adds _ _ _) (Sem.run _ (execOp (Act.eval (frm _ _ _ [])) _) _)
     simp only[frm]
     have hbk:=HMB.out.below hb1 HMB.out.lt
     have c0:w1.cell? ⟨Nm,0,none⟩=some (.int .i64 m.old.base):=hbk.cell 0
     have c1:w1.cell? ⟨Nm,1,none⟩=some (.int .i64 m.old.limit):=hbk.cell 1
     have c2:w1.cell? ⟨Nm,2,none⟩=some (.slice A1 m.old.ws.length u1):=hbk.cell 2
     have c3:w1.cell? ⟨Nm,3,none⟩=some (.int .i64 m.yng.base):=hbk.cell 3
     have c4:w1.cell? ⟨Nm,4,none⟩=some (.int .i64 m.yng.limit):=hbk.cell 4
     have c5:w1.cell? ⟨Nm,5,none⟩=some (.slice A2 m.yng.ws.length u2):=hbk.cell 5
     clear hbk
     go_simp
     exact adds_val rfl
    ·clear hgr
     change Made _ (Adds _ _ _) (Sem.run _ (execOp (Act.eval (frm _ _ _ [])) _) _)
     simp only[frm]
     go_simp
     exact adds_val rfl
    ·clear hgr
     change Made _ (Adds _ _ _) (Sem.run _ (execOp (Act.eval (frm _ _ _ [])) _) _)
     simp only[frm]
     go_simp
     exact adds_val rfl
    ·have h1:vs 1=_:=hgr 1 (by decide)
     have h2:vs 2=_:=hgr 2 (by decide)
     clear hgr
     change Made _ (Adds _ _ _) (Sem.run _ (execOp (Act.eval (Act.put (Act.put (frm _ _ _ []) (some 22) (vs 2)) (some 21) (vs 1))) _) _)
     simp only[frm,h1,h2]
     go_simp
     exact adds_val rfl
    ·have h3:vs 3=_:=hgr 3 (by decide)
     clear hgr
     change Made _ (Adds _ _ _) (Sem.run _ (execOp (Act.eval (Act.put (frm _ _ _ []) (some 23) (vs 3))) _) _)
     simp only[frm,h3]
     have e8:w1.cell? ⟨bb,oo+j,none⟩=some (.int .u64 x):=((bcell hb1).1 _ _ HE1.out.1).trans HE1.out.2
     go_simp
     exact adds_val rfl
    ·have h0:vs 0=_:=hgr 0 (by decide)
     have h4:vs 4=_:=hgr 4 (by decide)
     clear hgr
     change Made _ (Adds _ _ _) (Sem.run _ (execOp (Act.eval (Act.put (Act.put (frm _ _ _ []) (some 24) (vs 4)) (some 20) (vs 0))) _) _)
     simp only[frm,h0,h4]
     have cM:=cL (HBW.out.trans (hb1.mono hbws))
     go_simp
     exact adds_below cM
    ·have h5:vs 5=_:=hgr 5 (by decide)
     clear hgr
     change Made _ (Adds _ _ _) (Sem.run _ (execOp (Act.eval (Act.put (frm _ _ _ []) (some 25) (vs 5))) _) _)
     simp only[frm,h5]
     go_simp
     exact adds_val rfl
    ·have h6:vs 6=_:=hgr 6 (by decide)
     clear hgr
     change Made _ (Adds _ _ _) (Sem.run _ (execOp (Act.eval (Act.put (frm _ _ _ []) (some 19) (vs 6))) _) _)
     simp only[frm,h6]
     go_simp
     exact adds_val rfl
    ·have h6:vs 6=_:=hgr 6 (by decide)
     clear hgr
     change Made _ (Adds _ _ _) (Sem.run _ (execOp (Act.eval (Act.put (frm _ _ _ []) (some 19) (vs 6))) _) _)
     simp only[frm,h6]
     go_simp
     exact adds_val rfl
    ·have h6:vs 6=_:=hgr 6 (by decide)
     clear hgr
     change Made _ (Adds _ _ _) (Sem.run _ (execOp (Act.eval (Act.put (frm _ _ _ []) (some 19) (vs 6))) _) _)
     simp only[frm,h6]
     go_simp
     exact adds_val rfl
    ·have h7:vs 7=_:=hgr 7 (by decide)
     clear hgr
     change Made _ (Adds _ _ _) (Sem.run _ (execOp (Act.eval (Act.put (frm _ _ _ []) (some 26) (vs 7))) _) _)
     simp only[frm,h7]
     go_simp
     exact adds_val rfl
    ·have h8:vs 8=_:=hgr 8 (by decide)
     clear hgr
     change Made _ (Adds _ _ _) (Sem.run _ (execOp (Act.eval (Act.put (frm _ _ _ []) (some 27) (vs 8))) _) _)
     simp only[frm,h8]
     go_simp
     exact adds_val rfl
    ·have h9:vs 9=_:=hgr 9 (by decide)
     clear hgr
     change Made _ (Adds _ _ _) (Sem.run _ (execOp (Act.eval (Act.put (frm _ _ _ []) (some 28) (vs 9))) _) _)
     simp only[frm,h9]
     go_simp
     exact adds_val rfl
   intro vs w1 hb1 hall hap
   have h10:vs 10=_:=(hall 10 (by omega)).1
   have h11:vs 11=_:=(hall 11 (by omega)).1
   have h12:vs 12=_:=(hall 12 (by omega)).1
   clear hall hap
   change wpList _ _ _ [] (Act.put (Act.put (Act.put (Act.put (Act.put (Act.put (Act.put (Act.put (Act.put (Act.put (Act.put (Act.put (Act.put (frm _ _ _ []) (some 12) (vs 12)) (some 11) (vs 11)) (some 10) (vs 10)) (some 28) (vs 9)) (some 27) (vs 8)) (some 26) (vs 7)) (some 19) (vs 6)) (some 25) (vs 5)) (some 24) (vs 4)) (some 23) (vs 3)) (some 22) (vs 2)) (some 21) (vs 1)) (some 20) (vs 0)) _
   simp only[frm,h10,h11,h12]
   have HMB1:=lh (HMB.out.below hb1 HMB.out.lt)
   have HOW1:=lh (own_local HOW.out (w':=w1) fun k hk=>hb1.block k (HOW.out.lt k hk).2)
   have HK1:=lh (HK.out.trans (Kp.of_below (S:=fun k=>(Value.slice Al l.length cl).ownBlock=some k) hb1) fun _ _ e=>e)
   have hb1s:=hb1.size
   clear hb1 h10 h11 h12 cL HMB HOW HK HE1
   obtain⟨pl,pb⟩:=p
   dsimp only at HP HOI2 HOW1 HVO HST HOI3 hln ⊢
   have hord:m.ord1 (pl,pb) x=match m.ld x with
    | none=>(pl,true)
    | some none=>(pl,pb)
    | some (some a)=>if 16777216≤a∧pl.contains a=false then (pl++[a],pb) else (pl,pb):=rfl
   rw[hord] at HST HOI3
   have hrl:=HRL.out
   have hrr:∀ a,m.ld x=some (some a)→0≤a∧a≤4294967295:=fun a ha=>hdr_rg HOK.out (Mm.ld_hdr ha).1
   clear HRL hord
   cases hld:m.ld x with
   | none =>
    rw[hld] at hrl HST HOI3
    cases hrl
    dsimp only at HST HOI3
    clear hrr hld
    cases pb
    all_goals
     go_wp2_with fail
     go_roundw
     case rel=>exact⟨j+1,(pl,true),by go_num,rfl,by omega,HST.out.symm,HOI2.out,HOW1.out,HK1.out,HVO.out,HMB1.out⟩
     case measure=>simp[intOf];omega
   | some oa =>
    cases oa with
    | none =>
     rw[hld] at hrl HST HOI3
     cases hrl
     dsimp only at HST HOI3
     clear hrr hld
     cases pb
     all_goals
      go_wp2_with fail
      go_roundw
      case rel=>exact⟨j+1,(pl,_),by go_num,rfl,by omega,HST.out.symm,HOI2.out,HOW1.out,HK1.out,HVO.out,HMB1.out⟩
      case measure=>simp[intOf];omega
    | some a =>
     rw[hld] at hrl HST HOI3
     injection hrl with hrl
     obtain⟨rfl,rfl,rfl⟩:a=r∧true=o∧false=d:=by
      injection hrl with hrl
      simp only[List.cons.injEq,Value.int.injEq,Value.bool.injEq,true_and,and_true] at hrl
      exact hrl
     dsimp only at HST HOI3
     have hra:=hrr a hld
     clear hrr hld
     by_cases hy:16777216≤a
     ·have cH:=R10has_any (IS.mk (own_sl HOW1.out) hk0) (by omega) a
      cases hct:pl.contains a with
      | true =>
       rw[hct] at cH HST HOI3
       rw[if_neg (by simp)] at HST HOI3
       clear hct
       cases pb
       all_goals
        go_wp2_with (go_at_call 113;refine cH.mono ?_;rintro e w2 ⟨rfl,rfl⟩)
        go_roundw
        case rel=>exact⟨j+1,(pl,_),by go_num,rfl,by omega,HST.out.symm,HOI2.out,HOW1.out,HK1.out,HVO.out,HMB1.out⟩
        case measure=>simp[intOf];omega
      | false =>
       rw[hct] at cH HST HOI3
       rw[if_pos ⟨hy,rfl⟩] at HST HOI3
       clear hct
       cases pb
       all_goals
        go_wp2_with (first | (go_at_call 113;refine cH.mono ?_;rintro e w2 ⟨rfl,rfl⟩) | (at_builtin;refine wpList_append_own_at _ rfl (.tmp 44) (.tmp 46) 23 rfl w0.heap.size 3 i0 (.int .i64 0) 1 8 Tryz.underlying23 HI.out.1 HI.out.2.1 HI.out.2.2.1 HI.out.2.2.2 rfl (by decide) (.slice A0 pl.length k0) pl.length _ rfl (HOW1.out.alloc _) ⟨w1.heap.size,0,none⟩ 1 1 [.int .i64 a] rfl rfl (cell_one_new _ _ _) (by simp[Value.oneCell']) (by unfold maxLen;omega) (by omega) (by simp;omega) ?_;intro v' w3 hown3 hg3 _ hloc;have HO3:=lh hown3;have HG3:=lh hg3;have HLOC:=lh hloc;clear hown3 hg3 hloc))
        go_roundw
        case rel =>
         have hoa:=HOW1.out.alloc (.cells #[.int .i64 a] 3)
         refine⟨j+1,(pl++[a],_),by go_num,rfl,by omega,HST.out.symm,HOI3.out,?_,?_,?_,?_⟩
         ·show World.ownsRow _ _ _ _ _ (pl++[a]).length (ints (pl++[a]))
          rw[show ints (pl++[a])=ints pl++[.int .i64 a] by simp[ints],List.length_append,List.length_singleton]
          exact HO3.out
         ·have hba:Below w1.heap.size w1 (w1.alloc (.cells #[.int .i64 a] 3)):=(Below.refl _ _).alloc (Nat.le_refl _) _
          refine(HK1.out.trans (Kp.of_below (S:=fun k=>(Value.slice Al l.length cl).ownBlock=some k) hba) fun _ _ e=>e).trans (Kp.of_grown (S:=fun k=>(Value.slice A0 pl.length k0).ownBlock=some k) HG3.out fun k hk=>hk) fun k hk e=>?_
          rcases HVO.out k e with h | h
          ·exact h
          ·omega
         ·intro q hq
          rcases HLOC.out with e | e
          ·exact HVO.out q (by rw[← e];exact hq)
          ·rw[e] at hq
           have:=Option.some.inj hq
           have h3:=HK1.out.size
           simp only[World.size_alloc] at this
           exact .inr (by omega)
         ·exact(HMB1.out.alloc _).grown HG3.out fun e=>ownRow_bk hoa (HMB1.out.alloc _) (by decide) e.symm
        case measure=>simp[intOf];omega
     ·rw[if_neg (fun e=>hy e.1)] at HST HOI3
      cases pb
      all_goals
       go_wp2_with fail
       go_roundw
       case rel=>exact⟨j+1,(pl,_),by go_num,rfl,by omega,HST.out.symm,HOI2.out,HOW1.out,HK1.out,HVO.out,HMB1.out⟩
       case measure=>simp[intOf];omega
  ·obtain rfl:j=ws.length:=by omega
   rw[List.take_length] at hp
   have HP:=lh hp
   clear hp hoi hown hkp hvo hbm hbw
   go_wp2_with fail
   show Q (.returned (.tuple #[.slice A0 p.1.length k0,.bool p.2])) wr
   rw[HQ.out,← HP.out]
   exact⟨_,rfl,HOW.out,HK.out,HVO.out⟩
end
theorem Sl.ofC {w:World} {g:Nat} {t:TypeId} {l:List Value} (h:Bk w g t l.toArray):Sl w 1 (some ⟨g,0,none⟩) l.length l:=⟨by simp,.inr ⟨g,0,rfl,h.lt,fun j x hx=>by rw[Nat.zero_add,h.cell];simpa using hx⟩⟩
def WsT (B:Nat) (l:List Int) (v:Value) (w:World):Prop:=∃ A c,v=.slice A l.length c∧Sl w 1 A l.length (wds l)∧l.length≤c∧∀ b o,A=some ⟨b,o,none⟩→B≤b∧b < w.heap.size
theorem WsT.bl {B:Nat} {l:List Int} (v:Value) (w w':World) (h:WsT B l v w) (hb:Below w.heap.size w w'):WsT B l v w':=by
 obtain⟨A,c,e,h1,h2,h3⟩:=h
 exact⟨A,c,e,h1.below hb,h2,fun b o e=>⟨(h3 b o e).1,Nat.lt_of_lt_of_le (h3 b o e).2 hb.size⟩⟩
theorem WsT.of {B:Nat} {w w':World} {l:List Int} {v:Value} (h:w'.ownsRow w.heap.size 54 1 v l.length (wds l)) (hB:B≤w.heap.size):WsT B l v w':=by
 obtain⟨A,c,rfl,hc⟩:=own_shape h
 refine⟨A,c,rfl,own_sl h,hc,fun b o e=>?_⟩
 have:=h.lt b (by rw[e];rfl)
 omega
theorem Mm.ord1_bad (m:Mm) (l:List Int) (b:Bool) (x:Int):m.ord1 (l,b) x=((m.ord1 (l,false) x).1,b || (m.ord1 (l,false) x).2):=by
 unfold Mm.ord1
 cases m.ld x with
 | none=>simp
 | some o=>cases o with
  | none=>simp
  | some a =>
   dsimp only
   split <;> simp
theorem Mm.ordW_bad (m:Mm):∀ (ws:List Int) (l:List Int) (b:Bool),ws.foldl m.ord1 (l,b)=((ws.foldl m.ord1 (l,false)).1,b || (ws.foldl m.ord1 (l,false)).2)
 | [],l,b=>by simp
 | x::ws,l,b=>by
  have h1:=Mm.ordW_bad m ws (m.ord1 (l,false) x).1 (b || (m.ord1 (l,false) x).2)
  have h2:=Mm.ordW_bad m ws (m.ord1 (l,false) x).1 (m.ord1 (l,false) x).2
  rw[List.foldl_cons,List.foldl_cons,m.ord1_bad l b x,h1]
  have e:m.ord1 (l,false) x=((m.ord1 (l,false) x).1,(m.ord1 (l,false) x).2):=rfl
  rw[e,h2]
  simp only[Bool.or_assoc]
section
variable {w:World} {m:Mm} {A1 A2 Ar A:Option Addr} {u1 u2 u cr:Nat} {cs roots:List Int}
set_option maxHeartbeats 8000000 in
theorem ROrder_any (h:RM w m A1 u1 A2 u2) (ok:m.Ok) (hr:RC w cs A u) (hcl:cs.length≤100000) (hs:Sl w 1 Ar roots.length (wds roots)) (hsc:roots.length≤cr) (hru:∀ x∈roots,U64 x) (hA:∀ b o,Ar=some ⟨b,o,none⟩→b < w.heap.size) (hm:m.size≤40000000) (hrl:roots.length≤1000000000) :
  Calls Tryz.prog 38 #[.agg (rmC m A1 u1 A2 u2),.agg #[.slice A cs.length u],.slice Ar roots.length cr] w (OrdP w (m.order cs roots)):=by
 have hbx:Below w.heap.size w (((w.alloc (.cells (rmC m A1 u1 A2 u2) 35)).alloc (.cells #[.slice A cs.length u] 37)).alloc (.cells #[] 3)):=(((Below.refl _ _).alloc (Nat.le_refl _) _).alloc (by simp) _).alloc (by simp;omega) _
 have HMB0:Hid (Bk (((w.alloc (.cells (rmC m A1 u1 A2 u2) 35)).alloc (.cells #[.slice A cs.length u] 37)).alloc (.cells #[] 3)) w.heap.size 35 (rmC m A1 u1 A2 u2)):=lh (((Bk.new _ _ _).alloc _).alloc _)
 have HTB0:Hid (Bk (((w.alloc (.cells (rmC m A1 u1 A2 u2) 35)).alloc (.cells #[.slice A cs.length u] 37)).alloc (.cells #[] 3)) (w.heap.size+1) 37 #[.slice A cs.length u]):=lh ((Bk.here _ _ _ (by simp)).alloc _)
 have HE0:Hid ((((w.alloc (.cells (rmC m A1 u1 A2 u2) 35)).alloc (.cells #[.slice A cs.length u] 37)).alloc (.cells #[] 3)).ownsRow w.heap.size 3 1 (.slice (some ⟨w.heap.size+1+1,0,none⟩) ([]:List Int).length 0) ([]:List Int).length (ints [])):=lh (ownEmpty 1 (Bk.here _ _ _ (by simp)) (by omega))
 have HBX:=lh hbx
 have H:=lh h
 have HRC:=lh hr
 have HOK:=lh ok
 have HM:=lh hm
 have hml:m.yng.ws.length≤40000000:=by unfold Mm.size at hm;omega
 obtain⟨Q,hQ⟩:∃ Q,Q=OrdP w (m.order cs roots):=⟨_,rfl⟩
 rw[← hQ]
 have HQ:=lh hQ
 have HR:=lh (m.order_F cs roots)
 have cA1:=Radd_any (cl:=0) h ok hbx HE0.out (hs.below hbx) hsc hru (fun b o e he=>by
  have h1:=hA b o e
  have:w.heap.size+1+1=b:=Option.some.inj he
  omega) (Mm.OrdI.nil m) hm hrl
 have hcr:=ok.crossing_len2 (cardIn cs)
 have HCRU:Hid (∀ x∈m.gets (m.crossing (cardIn cs)),U64 x):=lh fun x hx=>by
  obtain⟨a,_,rfl⟩:=List.mem_map.1 hx
  cases hx:m.at_ a with
  | none=>exact⟨by decide,by decide⟩
  | some y=>exact ok.at_u hx
 have HSWU:Hid (∀ a,∀ x∈m.slW a,U64 x):=lh fun a x hx=>by
  unfold Mm.slW at hx
  obtain⟨i,_,rfl⟩:=List.mem_map.1 hx
  cases hx:m.at_ (a+2+(i:Int)) with
  | none=>exact⟨by decide,by decide⟩
  | some y=>exact ok.at_u hx
 clear h ok hr hs hru hA hbx hm hQ
 go_enter Tryz.func38,Tryz.ntmps38
 go_wp2_with fail
 refine cA1.mono ?_
 rintro e w1 ⟨v,rfl,hown,hkp,hvo⟩
 have hbw:Below w.heap.size w w1:=hkp.toBelow HBX.out HBX.out.size fun k hk=>(HE0.out.lt k hk).1
 have HB1:=lh hbw
 have HTB1:=lh (HTB0.out.kp hkp fun e=>ownRow_bk HE0.out HTB0.out (by decide) e)
 have HMB1:=lh (HMB0.out.kp hkp fun e=>ownRow_bk HE0.out HMB0.out (by decide) e)
 obtain⟨p1,hp1⟩:∃ p1,p1=roots.foldl m.ord1 ([],false):=⟨_,rfl⟩
 rw[← hp1] at hown HR ⊢
 have hoi1:m.OrdI p1.1:=by rw[hp1];exact Mm.ordW_I roots (Mm.OrdI.nil m)
 have HO1:=lh hown
 obtain⟨Al,cl,rfl,hcl1⟩:=own_shape hown
 have cRm:=RRemembered_any (H.out.below hbw) (HRC.out.below hbw) hcl HOK.out
 unfold rmV at cRm
 have q0:w1.cell? ⟨w.heap.size,0,none⟩=some (.int .i64 m.old.base):=HMB1.out.cell 0
 have q1:w1.cell? ⟨w.heap.size,1,none⟩=some (.int .i64 m.old.limit):=HMB1.out.cell 1
 have q2:w1.cell? ⟨w.heap.size,2,none⟩=some (.slice A1 m.old.ws.length u1):=HMB1.out.cell 2
 have q3:w1.cell? ⟨w.heap.size,3,none⟩=some (.int .i64 m.yng.base):=HMB1.out.cell 3
 have q4:w1.cell? ⟨w.heap.size,4,none⟩=some (.int .i64 m.yng.limit):=HMB1.out.cell 4
 have q5:w1.cell? ⟨w.heap.size,5,none⟩=some (.slice A2 m.yng.ws.length u2):=HMB1.out.cell 5
 have q6:w1.cell? ⟨w.heap.size+1,0,none⟩=some (.slice A cs.length u):=HTB1.out.cell 0
 obtain⟨L,hL⟩:∃ L,L=m.crossing (cardIn cs):=⟨_,rfl⟩
 have HRW:Hid (m.remW cs=m.gets L):=lh (by rw[hL];rfl)
 rw[← hL] at cRm hcr HCRU
 have HOI1:=lh hoi1
 clear cA1 hown hkp hvo hbw hp1 hoi1 HE0 HTB0 HMB0 HBX hL
 go_wp2_with fail
 refine cRm.mono ?_
 rintro e w2 ⟨v,rfl,hown,hb⟩
 obtain⟨Aa,ca,rfl,hca⟩:=own_shape hown
 have HA2:=lh (ownsRow_mono hown HB1.out.size)
 have HB2:=lh (HB1.out.trans (hb.mono HB1.out.size))
 have HO2:=lh (own_local HO1.out fun k hk=>hb.block k (HO1.out.lt k hk).2)
 have HMB2:=lh (HMB1.out.below hb HMB1.out.lt)
 have HNE:Hid (∀ q,(Value.slice Al p1.1.length cl).ownBlock=some q→(Value.slice Aa L.length ca).ownBlock≠some q):=lh fun q hq e=>by
  have h1:=(HO1.out.lt q hq).2
  have h2:=(hown.lt q e).1
  omega
 clear cRm hown hb HB1 HO1 HMB1 HTB1 q0 q1 q2 q3 q4 q5 q6
 obtain⟨Nm,hNm⟩:∃ Nm,Nm=w.heap.size:=⟨_,rfl⟩
 rw[← hNm] at HMB2 ⊢
 clear hNm
 go_wp2_with fail
 go_loopw [8,9,11] (fun v b i wr=>∃ (j:Nat) (p:List Int × Bool),i=.int .i64 (j:Int)∧b=.bool p.2∧j≤L.length∧p=(m.gets (L.take j)).foldl m.ord1 p1∧m.OrdI p.1∧wr.ownsRow w.heap.size 3 1 v p.1.length (ints p.1)∧wr.ownsRow w.heap.size 3 1 (.slice Aa L.length ca) L.length (ints L)∧Below w.heap.size w wr∧(∀ q,v.ownBlock=some q→(Value.slice Aa L.length ca).ownBlock≠some q)∧Bk wr Nm 35 (rmC m A1 u1 A2 u2)) (fun _ _ i _=>L.length - (intOf i).toNat)
 case atStart=>exact⟨0,p1,rfl,rfl,Nat.zero_le _,rfl,HOI1.out,HO2.out,HA2.out,HB2.out,HNE.out,HMB2.out⟩
 case round =>
  clear HO2 HA2 HB2 HNE HMB2 HOI1
  obtain⟨j,p,rfl,rfl,hj,hp,hoi,hown,hat,hbw,hne,hbm⟩:=hrel
  have HP:=lh hp
  have HOI2:=lh hoi
  have HOW:=lh hown
  have HAT:=lh hat
  have HBW:=lh hbw
  have HNE:=lh hne
  have HMB:=lh hbm
  have hbws:=hbw.size
  obtain⟨A0,k0,rfl,hk0⟩:=own_shape hown
  by_cases hlt:j < L.length
  ·obtain⟨bb,oo,rfl,hb1,hc1⟩:=(own_sl hat).get hlt
   have t1:L[j]?=some L[j]:=List.getElem?_eq_getElem hlt
   have e1:wr.cell? ⟨bb,oo+j,none⟩=some (.int .i64 L[j]):=hc1 j _ (ints_get t1)
   have hst:=(m.gets_take t1 p1).trans (by rw[← hp])
   have hxu:U64 ((m.at_ L[j]).getD 0):=HCRU.out _ (List.mem_map.2 ⟨L[j],List.getElem_mem hlt,rfl⟩)
   generalize L[j]=a at e1 t1 hst hxu
   have HST:=lh hst
   have HE1:=lh (And.intro hb1 e1)
   have hcj:j < ca:=by omega
   obtain⟨er,her⟩:∃ er,atV (m.at_ a)=.tuple #[.int .u64 ((m.at_ a).getD 0),.int .i64 er]:=by
    cases m.at_ a with
    | none=>exact⟨_,rfl⟩
    | some x=>exact⟨_,rfl⟩
   have cL:=fun {w9:World} (hb:Below w.heap.size w w9)=>RLoad_any (H.out.below hb) a
   rw[her] at cL
   unfold rmV at cL
   obtain⟨x,hx⟩:∃ x,x=(m.at_ a).getD 0:=⟨_,rfl⟩
   rw[← hx] at hxu HST
   simp only[← hx] at cL
   have HXU:=lh hxu
   clear hp hoi hown hat hbw hne hbm hc1 t1 e1 hst hxu hb1 her hx
   go_upto_region 6 with fail
   refine wp_region_all 11 (fun i=>([[],[],[],[1,2],[3],[0,4],[5],[6],[6],[7],[8]]:List (List Nat)).getD i []) (EL [Ent.val (.agg #[.int .i64 m.old.base,.int .i64 m.old.limit,.slice A1 m.old.ws.length u1,.int .i64 m.yng.base,.int .i64 m.yng.limit,.slice A2 m.yng.ws.length u2]),Ent.val (.slice (some ⟨bb,oo,none⟩) L.length ca),Ent.val (.int .i64 (j:Int)),Ent.val (.pointer (some ⟨bb,oo+j,none⟩)),Ent.val (.int .i64 a),Ent.val (.tuple #[.int .u64 x,.int .i64 er]),Ent.val (.tuple #[.int .u64 x,.int .i64 er]),Ent.val (.int .u64 x),Ent.val (.int .i64 er),Ent.val (.int .u64 x),Ent.val (.int .i64 er)]) rfl (by kernel_rfl) (by rfl) (by kernel_rfl) (by kernel_rfl) (by rfl) ?_ ?_
   ·intro i hi o ho vs w1 hb1 hgr
    rcases (show i=0 ∨ i=1 ∨ i=2 ∨ i=3 ∨ i=4 ∨ i=5 ∨ i=6 ∨ i=7 ∨ i=8 ∨ i=9 ∨ i=10 by omega) with rfl | rfl | rfl | rfl | rfl | rfl | rfl | rfl | rfl | rfl | rfl <;> cases ho
    ·clear hgr
     change Made _ (Adds _ _ _) (Sem.run _ (execOp (Act.eval (frm _ _ _ [])) _) _)
     simp only[frm]
     have hbk:=HMB.out.below hb1 HMB.out.lt
     have c0:w1.cell? ⟨Nm,0,none⟩=some (.int .i64 m.old.base):=hbk.cell 0
     have c1:w1.cell? ⟨Nm,1,none⟩=some (.int .i64 m.old.limit):=hbk.cell 1
     have c2:w1.cell? ⟨Nm,2,none⟩=some (.slice A1 m.old.ws.length u1):=hbk.cell 2
     have c3:w1.cell? ⟨Nm,3,none⟩=some (.int .i64 m.yng.base):=hbk.cell 3
     have c4:w1.cell? ⟨Nm,4,none⟩=some (.int .i64 m.yng.limit):=hbk.cell 4
     have c5:w1.cell? ⟨Nm,5,none⟩=some (.slice A2 m.yng.ws.length u2):=hbk.cell 5
     clear hbk
     go_simp
     exact adds_val rfl
    ·clear hgr
     change Made _ (Adds _ _ _) (Sem.run _ (execOp (Act.eval (frm _ _ _ [])) _) _)
     simp only[frm]
     go_simp
     exact adds_val rfl
    ·clear hgr
     change Made _ (Adds _ _ _) (Sem.run _ (execOp (Act.eval (frm _ _ _ [])) _) _)
     simp only[frm]
     go_simp
     exact adds_val rfl
    ·have h1:vs 1=_:=hgr 1 (by decide)
     have h2:vs 2=_:=hgr 2 (by decide)
     clear hgr
     change Made _ (Adds _ _ _) (Sem.run _ (execOp (Act.eval (Act.put (Act.put (frm _ _ _ []) (some 38) (vs 2)) (some 37) (vs 1))) _) _)
     simp only[frm,h1,h2]
     go_simp
     exact adds_val rfl
    ·have h3:vs 3=_:=hgr 3 (by decide)
     clear hgr
     change Made _ (Adds _ _ _) (Sem.run _ (execOp (Act.eval (Act.put (frm _ _ _ []) (some 39) (vs 3))) _) _)
     simp only[frm,h3]
     have e8:w1.cell? ⟨bb,oo+j,none⟩=some (.int .i64 a):=((bcell hb1).1 _ _ HE1.out.1).trans HE1.out.2
     go_simp
     exact adds_val rfl
    ·have h0:vs 0=_:=hgr 0 (by decide)
     have h4:vs 4=_:=hgr 4 (by decide)
     clear hgr
     change Made _ (Adds _ _ _) (Sem.run _ (execOp (Act.eval (Act.put (Act.put (frm _ _ _ []) (some 40) (vs 4)) (some 36) (vs 0))) _) _)
     simp only[frm,h0,h4]
     have cM:=cL (HBW.out.trans (hb1.mono hbws))
     go_simp
     exact adds_below cM
    ·have h5:vs 5=_:=hgr 5 (by decide)
     clear hgr
     change Made _ (Adds _ _ _) (Sem.run _ (execOp (Act.eval (Act.put (frm _ _ _ []) (some 41) (vs 5))) _) _)
     simp only[frm,h5]
     go_simp
     exact adds_val rfl
    ·have h6:vs 6=_:=hgr 6 (by decide)
     clear hgr
     change Made _ (Adds _ _ _) (Sem.run _ (execOp (Act.eval (Act.put (frm _ _ _ []) (some 35) (vs 6))) _) _)
     simp only[frm,h6]
     go_simp
     exact adds_val rfl
    ·have h6:vs 6=_:=hgr 6 (by decide)
     clear hgr
     change Made _ (Adds _ _ _) (Sem.run _ (execOp (Act.eval (Act.put (frm _ _ _ []) (some 35) (vs 6))) _) _)
     simp only[frm,h6]
     go_simp
     exact adds_val rfl
    ·have h7:vs 7=_:=hgr 7 (by decide)
     clear hgr
     change Made _ (Adds _ _ _) (Sem.run _ (execOp (Act.eval (Act.put (frm _ _ _ []) (some 42) (vs 7))) _) _)
     simp only[frm,h7]
     go_simp
     exact adds_val rfl
    ·have h8:vs 8=_:=hgr 8 (by decide)
     clear hgr
     change Made _ (Adds _ _ _) (Sem.run _ (execOp (Act.eval (Act.put (frm _ _ _ []) (some 43) (vs 8))) _) _)
     simp only[frm,h8]
     go_simp
     exact adds_val rfl
   intro vs w1 hb1 hall hap
   have h9:vs 9=_:=(hall 9 (by omega)).1
   have h10:vs 10=_:=(hall 10 (by omega)).1
   clear hall hap
   change wpList _ _ _ [] (Act.put (Act.put (Act.put (Act.put (Act.put (Act.put (Act.put (Act.put (Act.put (Act.put (Act.put (frm _ _ _ []) (some 13) (vs 10)) (some 12) (vs 9)) (some 43) (vs 8)) (some 42) (vs 7)) (some 35) (vs 6)) (some 41) (vs 5)) (some 40) (vs 4)) (some 39) (vs 3)) (some 38) (vs 2)) (some 37) (vs 1)) (some 36) (vs 0)) _
   simp only[frm,h9,h10]
   have HB3:=lh (HBW.out.trans (hb1.mono hbws))
   have HO3:=lh (own_local HOW.out (w':=w1) fun k hk=>hb1.block k (HOW.out.lt k hk).2)
   have HA3:=lh (own_local HAT.out (w':=w1) fun k hk=>hb1.block k (HAT.out.lt k hk).2)
   have HM3:=lh (HMB.out.below hb1 HMB.out.lt)
   clear hb1 h9 h10 cL HBW HOW HAT HMB HE1
   have hbx:Below w1.heap.size w1 (w1.alloc (.cells #[.int .u64 x] 54)):=(Below.refl _ _).alloc (Nat.le_refl _) _
   have hsx:Sl (w1.alloc (.cells #[.int .u64 x] 54)) 1 (some ⟨w1.heap.size,0,none⟩) ([x]:List Int).length (wds [x]):=Sl.ofC (l:=[.int .u64 x]) (Bk.new _ _ _)
   have HO4:=lh (own_local HO3.out (w':=w1.alloc (.cells #[.int .u64 x] 54)) fun k hk=>hbx.block k (HO3.out.lt k hk).2)
   have HA4:=lh (own_local HA3.out (w':=w1.alloc (.cells #[.int .u64 x] 54)) fun k hk=>hbx.block k (HA3.out.lt k hk).2)
   have HB4:=lh (HB3.out.trans (hbx.mono HB3.out.size))
   have HM4:=lh (HM3.out.below hbx HM3.out.lt)
   have cAd:=Radd_any H.out HOK.out HB4.out HO4.out hsx (Nat.le_refl _) (by intro y hy;simp only[List.mem_cons,List.not_mem_nil,or_false] at hy;subst hy;exact HXU.out) (fun b o e he=>by
    have h1:=(HO3.out.lt b he).2
    have:w1.heap.size=b:=by cases e;rfl
    omega) HOI2.out HM.out (by simp)
   have q0:w1.cell? ⟨Nm,0,none⟩=some (.int .i64 m.old.base):=HM3.out.cell 0
   have q1:w1.cell? ⟨Nm,1,none⟩=some (.int .i64 m.old.limit):=HM3.out.cell 1
   have q2:w1.cell? ⟨Nm,2,none⟩=some (.slice A1 m.old.ws.length u1):=HM3.out.cell 2
   have q3:w1.cell? ⟨Nm,3,none⟩=some (.int .i64 m.yng.base):=HM3.out.cell 3
   have q4:w1.cell? ⟨Nm,4,none⟩=some (.int .i64 m.yng.limit):=HM3.out.cell 4
   have q5:w1.cell? ⟨Nm,5,none⟩=some (.slice A2 m.yng.ws.length u2):=HM3.out.cell 5
   clear hbx hsx HO3 HA3 HB3 HM3
   go_wp2_with fail
   refine cAd.mono ?_
   rintro e w5 ⟨v5,rfl,hown5,hkp5,hvo5⟩
   have HO5:=lh hown5
   have HK5:=lh hkp5
   have HVO5:=lh hvo5
   have hst2:=m.ordW_bad [x] p.1 p.2
   obtain⟨p5,hp5⟩:∃ p5,p5=[x].foldl m.ord1 (p.1,false):=⟨_,rfl⟩
   rw[← hp5] at HO5 hst2 ⊢
   have hst3:m.ord1 p x=(p5.1,p.2 || p5.2):=hst2
   have hoi5:m.OrdI p5.1:=by rw[hp5];exact Mm.ordW_I _ HOI2.out
   have hst4:=HST.out.trans hst3
   have HST4:=lh hst4
   have HOI5:=lh hoi5
   have HB5:=lh (hkp5.toBelow HB4.out HB4.out.size fun k hk=>(HO4.out.lt k hk).1)
   have HM5:=lh (HM4.out.kp hkp5 fun e=>ownRow_bk HO4.out HM4.out (by decide) e)
   have HA5:=lh (own_local HA4.out (w':=w5) fun k hk=>hkp5.block k (HA4.out.lt k hk).2 fun e=>HNE.out k e hk)
   have HN5:Hid (∀ q,v5.ownBlock=some q→(Value.slice (some ⟨bb,oo,none⟩) L.length ca).ownBlock≠some q):=lh fun q hq e=>by
    rcases hvo5 q hq with h | h
    ·exact HNE.out q h e
    ·have:=(HA4.out.lt q e).2;omega
   clear cAd hown5 hkp5 hvo5 hst2 hst3 hst4 hoi5 hp5 HST HB4 HO4 HA4 HM4 HNE q0 q1 q2 q3 q4 q5
   obtain⟨pl,pb⟩:=p
   obtain⟨p5l,p5b⟩:=p5
   dsimp only at HST4 HOI5 HO5 ⊢
   cases pb <;> cases p5b
   all_goals
    go_wp2_with fail
    go_roundw
    case rel=>exact⟨j+1,(p5l,_),by go_num,rfl,by omega,HST4.out.symm,HOI5.out,HO5.out,HA5.out,HB5.out,HN5.out,HM5.out⟩
    case measure=>simp[intOf];omega
  ·obtain rfl:j=L.length:=by omega
   rw[List.take_length] at hp
   have HR0:=lh (HR.out.trans (by rw[HRW.out,← hp]))
   have hnm:Nm < wr.heap.size:=HMB.out.lt
   clear hp hoi hown hat hbw hne hbm HR HRW HP HAT HNE
   go_wp2_with fail
   go_loopw [8,9,16] (fun v b i wr=>∃ (j:Nat) (p:List Int × Bool),i=.int .i64 (j:Int)∧b=.bool p.2∧j≤p.1.length∧Hid (m.order cs roots=m.ordF j p)∧m.OrdI p.1∧wr.ownsRow w.heap.size 3 1 v p.1.length (ints p.1)∧Below w.heap.size w wr∧Bk wr Nm 35 (rmC m A1 u1 A2 u2)) (fun _ _ i _=>m.yng.ws.length+1 - (intOf i).toNat)
   case atStart=>exact⟨0,p,rfl,rfl,Nat.zero_le _,HR0,HOI2.out,HOW.out,HBW.out,HMB.out⟩
   case round =>
    clear HR0 HOI2 HOW HBW HMB
    obtain⟨j,p,rfl,rfl,hj,HRJ,hoi,hown,hbw,hbm⟩:=hrel
    have HOI2:=lh hoi
    have HOW:=lh hown
    have HBW:=lh hbw
    have HMB:=lh hbm
    have hbws:=hbw.size
    have hln:=hoi.len HOK.out
    obtain⟨pl,pb⟩:=p
    dsimp only at hj hown hln HOI2 HOW hoi
    obtain⟨A0,kl,rfl,hk0⟩:=own_shape hown
    by_cases hlt:j < pl.length
    ·obtain⟨bb,oo,rfl,hb1,hc1⟩:=(own_sl hown).get hlt
     have t1:pl[j]?=some pl[j]:=List.getElem?_eq_getElem hlt
     have e1:wr.cell? ⟨bb,oo+j,none⟩=some (.int .i64 pl[j]):=hc1 j _ (ints_get t1)
     have HSTP:=lh (HRJ.out.trans (Mm.ordF_step HOK.out (p:=(pl,pb)) HOI2.out t1))
     generalize pl[j]=a at e1 t1 HSTP
     have HE1:=lh (And.intro hb1 e1)
     have hcj:j < kl:=by omega
     have hjI:(j:Int) < (pl.length:Int):=by omega
     have hslb:(m.slW a).length≤1000000000:=by rw[m.slW_len];exact slotNle9 m a
     have HSLB:=lh hslb
     clear hoi hown hbw hbm hc1 t1 e1 hb1 hslb HRJ
     go_upto_region 12 with fail
     refine wp_region_first 8 (fun i=>([[],[],[],[],[],[3,4],[5],[2,6]]:List (List Nat)).getD i []) (EL [Ent.val (.agg #[.int .i64 m.old.base,.int .i64 m.old.limit,.slice A1 m.old.ws.length u1,.int .i64 m.yng.base,.int .i64 m.yng.limit,.slice A2 m.yng.ws.length u2]),Ent.val (.slice (some ⟨bb,oo,none⟩) pl.length kl),Ent.val (.agg #[.int .i64 m.old.base,.int .i64 m.old.limit,.slice A1 m.old.ws.length u1,.int .i64 m.yng.base,.int .i64 m.yng.limit,.slice A2 m.yng.ws.length u2]),Ent.val (.slice (some ⟨bb,oo,none⟩) pl.length kl),Ent.val (.int .i64 (j:Int)),Ent.val (.pointer (some ⟨bb,oo+j,none⟩)),Ent.val (.int .i64 a),Ent.of (WsT wr.heap.size (m.slW a)) WsT.bl]) rfl (by kernel_rfl) (by kernel_rfl) (by kernel_rfl) (by rfl) ?_ ?_
     ·intro i hi o ho vs w1 hb1 hgr
      rcases (show i=0 ∨ i=1 ∨ i=2 ∨ i=3 ∨ i=4 ∨ i=5 ∨ i=6 ∨ i=7 by omega) with rfl | rfl | rfl | rfl | rfl | rfl | rfl | rfl <;> cases ho
      ·clear hgr
       change Made _ (Adds _ _ _) (Sem.run _ (execOp (Act.eval (frm _ _ _ [])) _) _)
       simp only[frm]
       have hbk:=HMB.out.below hb1 HMB.out.lt
       have c0:w1.cell? ⟨Nm,0,none⟩=some (.int .i64 m.old.base):=hbk.cell 0
       have c1:w1.cell? ⟨Nm,1,none⟩=some (.int .i64 m.old.limit):=hbk.cell 1
       have c2:w1.cell? ⟨Nm,2,none⟩=some (.slice A1 m.old.ws.length u1):=hbk.cell 2
       have c3:w1.cell? ⟨Nm,3,none⟩=some (.int .i64 m.yng.base):=hbk.cell 3
       have c4:w1.cell? ⟨Nm,4,none⟩=some (.int .i64 m.yng.limit):=hbk.cell 4
       have c5:w1.cell? ⟨Nm,5,none⟩=some (.slice A2 m.yng.ws.length u2):=hbk.cell 5
       clear hbk
       go_simp
       exact adds_val rfl
      ·clear hgr
       change Made _ (Adds _ _ _) (Sem.run _ (execOp (Act.eval (frm _ _ _ [])) _) _)
       simp only[frm]
       go_simp
       exact adds_val rfl
      ·clear hgr
       change Made _ (Adds _ _ _) (Sem.run _ (execOp (Act.eval (frm _ _ _ [])) _) _)
       simp only[frm]
       have hbk:=HMB.out.below hb1 HMB.out.lt
       have c0:w1.cell? ⟨Nm,0,none⟩=some (.int .i64 m.old.base):=hbk.cell 0
       have c1:w1.cell? ⟨Nm,1,none⟩=some (.int .i64 m.old.limit):=hbk.cell 1
       have c2:w1.cell? ⟨Nm,2,none⟩=some (.slice A1 m.old.ws.length u1):=hbk.cell 2
       have c3:w1.cell? ⟨Nm,3,none⟩=some (.int .i64 m.yng.base):=hbk.cell 3
       have c4:w1.cell? ⟨Nm,4,none⟩=some (.int .i64 m.yng.limit):=hbk.cell 4
       have c5:w1.cell? ⟨Nm,5,none⟩=some (.slice A2 m.yng.ws.length u2):=hbk.cell 5
       clear hbk
       go_simp
       exact adds_val rfl
      ·clear hgr
       change Made _ (Adds _ _ _) (Sem.run _ (execOp (Act.eval (frm _ _ _ [])) _) _)
       simp only[frm]
       go_simp
       exact adds_val rfl
      ·clear hgr
       change Made _ (Adds _ _ _) (Sem.run _ (execOp (Act.eval (frm _ _ _ [])) _) _)
       simp only[frm]
       go_simp
       exact adds_val rfl
      ·have h3:vs 3=_:=hgr 3 (by decide)
       have h4:vs 4=_:=hgr 4 (by decide)
       clear hgr
       change Made _ (Adds _ _ _) (Sem.run _ (execOp (Act.eval (Act.put (Act.put (frm _ _ _ []) (some 68) (vs 4)) (some 67) (vs 3))) _) _)
       simp only[frm,h3,h4]
       go_simp
       exact adds_val rfl
      ·have h5:vs 5=_:=hgr 5 (by decide)
       clear hgr
       change Made _ (Adds _ _ _) (Sem.run _ (execOp (Act.eval (Act.put (frm _ _ _ []) (some 69) (vs 5))) _) _)
       simp only[frm,h5]
       have e8:w1.cell? ⟨bb,oo+j,none⟩=some (.int .i64 a):=((bcell hb1).1 _ _ HE1.out.1).trans HE1.out.2
       go_simp
       exact adds_val rfl
      ·have h2:vs 2=_:=hgr 2 (by decide)
       have h6:vs 6=_:=hgr 6 (by decide)
       clear hgr
       change Made _ (Adds _ _ _) (Sem.run _ (execOp (Act.eval (Act.put (Act.put (frm _ _ _ []) (some 70) (vs 6)) (some 66) (vs 2))) _) _)
       simp only[frm,h2,h6]
       have cS:=Rslots_nur (H.out.below (HBW.out.trans (hb1.mono hbws))) HOK.out a
       go_simp
       exact adds_call (T:=WsT wr.heap.size (m.slW a)) (hT:=WsT.bl) (ob:=fun _=>none) cS fun e w2 ⟨v,he,ho,hb⟩=>⟨v,he,WsT.of ho hb1.size,hb,(fun k hk=>nomatch hk)⟩
     intro vs w1 hb1 hall hap
     have h0:vs 0=_:=(hall 0 (by omega)).1
     have h1:vs 1=_:=(hall 1 (by omega)).1
     have h2:vs 2=_:=(hall 2 (by omega)).1
     have h3:vs 3=_:=(hall 3 (by omega)).1
     have h4:vs 4=_:=(hall 4 (by omega)).1
     have h5:vs 5=_:=(hall 5 (by omega)).1
     have h6:vs 6=_:=(hall 6 (by omega)).1
     obtain⟨As,ks,h7,hss,hks,hgs⟩:=(hall 7 (by omega)).1
     clear hall hap
     change wpList _ _ _ [_] (Act.put (Act.put (Act.put (Act.put (Act.put (Act.put (Act.put (Act.put (frm _ _ _ []) (some 71) (vs 7)) (some 70) (vs 6)) (some 69) (vs 5)) (some 68) (vs 4)) (some 67) (vs 3)) (some 66) (vs 2)) (some 65) (vs 1)) (some 64) (vs 0)) _
     simp only[frm,h0,h1,h2,h3,h4,h5,h6,h7]
     have HB3:=lh (HBW.out.trans (hb1.mono hbws))
     have HO3:=lh (own_local HOW.out (w':=w1) fun k hk=>hb1.block k (HOW.out.lt k hk).2)
     have HM3:=lh (HMB.out.below hb1 HMB.out.lt)
     have cAd:=Radd_any H.out HOK.out HB3.out HO3.out hss hks (HSWU.out a) (fun b o e he=>by
      have h1:=(hgs b o e).1
      have h2:=(HOW.out.lt b he).2
      omega) HOI2.out HM.out HSLB.out
     clear hb1 h0 h1 h2 h3 h4 h5 h6 h7 hss hks hgs HBW HOW HMB HE1
     go_wp2_with fail
     refine cAd.mono ?_
     rintro e w5 ⟨v5,rfl,hown5,hkp5,hvo5⟩
     have HO5:=lh hown5
     have hst2:=m.ordW_bad (m.slW a) pl pb
     obtain⟨p5,hp5⟩:∃ p5,p5=(m.slW a).foldl m.ord1 (pl,false):=⟨_,rfl⟩
     rw[← hp5] at HO5 hst2 ⊢
     have hoi5:m.OrdI p5.1:=by rw[hp5];exact Mm.ordW_I _ HOI2.out
     have hle5:pl.length≤p5.1.length:=by rw[hp5];exact Mm.ordW_len m (m.slW a) (pl,false)
     have HST4:=lh (HSTP.out.trans (by rw[hst2]))
     have HOI5:=lh hoi5
     have HB5:=lh (hkp5.toBelow HB3.out HB3.out.size fun k hk=>(HO3.out.lt k hk).1)
     have HM5:=lh (HM3.out.kp hkp5 fun e=>ownRow_bk HO3.out HM3.out (by decide) e)
     clear cAd hown5 hkp5 hvo5 hst2 hoi5 hp5 HSTP HB3 HO3 HM3
     obtain⟨p5l,pb5⟩:=p5
     dsimp only at HST4 HOI5 HO5 hle5 ⊢
     go_wp2_with fail
     simp only[normalTo]
     refine phase2_all 9 14 (fun i=>([[],[],[],[],[],[3,4],[5],[2,6],[0,1,7],[8],[9],[9],[10],[11]]:List (List Nat)).getD i []) (EL [Ent.val (.agg (rmC m A1 u1 A2 u2)),Ent.val (.slice (some ⟨bb,oo,none⟩) pl.length kl),Ent.val (.agg (rmC m A1 u1 A2 u2)),Ent.val (.slice (some ⟨bb,oo,none⟩) pl.length kl),Ent.val (.int .i64 (j:Int)),Ent.val (.pointer (some ⟨bb,oo+j,none⟩)),Ent.val (.int .i64 a),Ent.val (.slice As (m.slW a).length ks),Ent.val (.tuple #[v5,.bool pb5]),Ent.val (.tuple #[v5,.bool pb5]),Ent.val (v5),Ent.val (.bool pb5),Ent.val (v5),Ent.val (.bool pb5)]) (by kernel_rfl) rfl (by omega) (by kernel_rfl) (by kernel_rfl) (by rfl) ?_ ?_ ?_
     ·intro i hi
      rcases (show i=0 ∨ i=1 ∨ i=2 ∨ i=3 ∨ i=4 ∨ i=5 ∨ i=6 ∨ i=7 ∨ i=8 by omega) with rfl | rfl | rfl | rfl | rfl | rfl | rfl | rfl | rfl <;> exact⟨rfl,fun _=>rfl⟩
     ·intro i hmi hi o ho vs w1 hb1 hgr
      rcases (show i=9 ∨ i=10 ∨ i=11 ∨ i=12 ∨ i=13 by omega) with rfl | rfl | rfl | rfl | rfl <;> cases ho
      ·have h8:vs 8=_:=hgr 8 (by decide)
       clear hgr
       change Made _ (Adds _ _ _) (Sem.run _ (execOp (Act.eval (Act.put (frm _ _ _ []) (some 72) (vs 8))) _) _)
       simp only[frm,h8]
       go_simp
       exact adds_val rfl
      ·have h9:vs 9=_:=hgr 9 (by decide)
       clear hgr
       change Made _ (Adds _ _ _) (Sem.run _ (execOp (Act.eval (Act.put (frm _ _ _ []) (some 63) (vs 9))) _) _)
       simp only[frm,h9]
       go_simp
       exact adds_val rfl
      ·have h9:vs 9=_:=hgr 9 (by decide)
       clear hgr
       change Made _ (Adds _ _ _) (Sem.run _ (execOp (Act.eval (Act.put (frm _ _ _ []) (some 63) (vs 9))) _) _)
       simp only[frm,h9]
       go_simp
       exact adds_val rfl
      ·have h10:vs 10=_:=hgr 10 (by decide)
       clear hgr
       change Made _ (Adds _ _ _) (Sem.run _ (execOp (Act.eval (Act.put (frm _ _ _ []) (some 73) (vs 10))) _) _)
       simp only[frm,h10]
       go_simp
       exact adds_val rfl
      ·have h11:vs 11=_:=hgr 11 (by decide)
       clear hgr
       change Made _ (Adds _ _ _) (Sem.run _ (execOp (Act.eval (Act.put (frm _ _ _ []) (some 74) (vs 11))) _) _)
       simp only[frm,h11]
       go_simp
       exact adds_val rfl
     intro vs w1 hb1 hall hap
     have h12:vs 12=_:=(hall 12 (by omega)).1
     have h13:vs 13=_:=(hall 13 (by omega)).1
     clear hall hap
     change wpList _ _ _ [] (Act.put (Act.put (Act.put (Act.put (Act.put (Act.put (Act.put (Act.put (Act.put (Act.put (Act.put (Act.put (Act.put (Act.put (frm _ _ _ []) (some 18) (vs 13)) (some 17) (vs 12)) (some 74) (vs 11)) (some 73) (vs 10)) (some 63) (vs 9)) (some 72) (vs 8)) (some 71) (vs 7)) (some 70) (vs 6)) (some 69) (vs 5)) (some 68) (vs 4)) (some 67) (vs 3)) (some 66) (vs 2)) (some 65) (vs 1)) (some 64) (vs 0)) _
     simp only[frm,h12,h13]
     have HB6:=lh (HB5.out.trans (hb1.mono HB5.out.size))
     have HO6:=lh (own_local HO5.out (w':=w1) fun k hk=>hb1.block k (HO5.out.lt k hk).2)
     have HM6:=lh (HM5.out.below hb1 HM5.out.lt)
     clear hb1 h12 h13 HB5 HO5 HM5
     cases pb <;> cases pb5
     all_goals
      go_wp2_with fail
      refine⟨⟨j+1,(p5l,_),by go_num,rfl,by show j+1≤p5l.length;omega,lh HST4.out,HOI5.out,HO6.out,HB6.out,HM6.out⟩,?_⟩
      simp[intOf]
      omega
    ·obtain rfl:j=pl.length:=by omega
     have HE:=lh (HRJ.out.trans (Mm.ordF_end (Nat.le_refl _)))
     clear hoi hown hbw hbm HRJ
     go_wp2_with fail
     show Q (.returned (.tuple #[.slice A0 pl.length kl,.bool pb])) wr
     rw[HQ.out,HE.out]
     exact⟨_,rfl,HOW.out,HBW.out⟩
end
end
end Go.Proofs.YtaijmgkjbbiboaaGreat
