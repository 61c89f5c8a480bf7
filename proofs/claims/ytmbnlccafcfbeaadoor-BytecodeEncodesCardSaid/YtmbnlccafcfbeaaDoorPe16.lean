/- Parts of the proof: Within, Ref41a. -/
import Derived.Test.YtmbnlccafcfbeaaDoorPeA
import Derived.Test.YtmbnlccafcfbeaaDoorPe11
import Derived.Test.YtmbnlccafcfbeaaDoorPe13
import Derived.Test.YtmbnlccafcfbeaaDoorPe14
import Derived.Test.YtmbnlccafcfbeaaDoorPe15
set_option linter.unusedVariables false
set_option linter.unusedSimpArgs false
set_option linter.unusedSectionVars false
set_option maxRecDepth 100000
namespace Go.Proofs.YtmbnlccafcfbeaaDoor
section
open Go.RowKit
attribute [local go_sem] Oper.semAt_some
section
variable {w:World} {cs:List Cls} {A:Option Addr} {n c:Nat}
set_option maxHeartbeats 4000000 in
theorem Within_any (hC:CodeR w cs A n c) {x:Bool} (hx:x=true↔withinP cs):Calls Tryd.prog 13 #[.agg #[.slice A n c]] w (YesP w x):=by
 obtain⟨rfl,hc,hn,hs⟩:=hC
 have HX:=lh hx
 have HB0:Hid (Below w.heap.size w (w.alloc (.cells #[.slice A cs.length c] 24))):=lh ((Below.refl _ _).alloc (Nat.le_refl _) _)
 have HS:=lh hs
 clear hs hx
 go_enter Tryd.func13,Tryd.ntmps13
 by_cases h60:60 < cs.length
 ·have d0:decide ((60:Int) < (cs.length:Int))=true:=decide_eq_true (by omega)
  have HE:Hid (x=false):=lh (by cases x with
   | false=>rfl
   | true=>have:=(HX.out.1 rfl).1;omega)
  clear h60
  go_wp2_with fail
  go_ret
  rw[HE.out];exact⟨rfl,HB0.out⟩
 ·have d0:decide ((60:Int) < (cs.length:Int))=false:=decide_eq_false (by omega)
  have H60:=lh h60
  clear h60
  go_wp2_with fail
  go_loopw [12] (fun ix wr=>∃ j:Nat,ix=.int .i64 (j:Int)∧j≤cs.length∧(∀ i k,i < j→cs[i]?=some k→k.fields.length≤30∧k.ms.length≤30)∧Below w.heap.size w wr) (fun ix _=>cs.length - (intOf ix).toNat)
  case atStart=>exact⟨0,rfl,Nat.zero_le _,fun i k hi=>(by omega),HB0.out⟩
  case round =>
   obtain⟨j,rfl,hj,ht,hbl⟩:=hrel
   have HT:=lh (And.intro ht hbl)
   clear ht hbl
   by_cases hlt:j < cs.length
   ·obtain⟨ba,oa,k,r,hA,hba,hk,hr,hrx,hca⟩:=HS.out.get hlt
    obtain⟨hok,F,cf,M,cm,rfl,hcf,hf,hcm,hm⟩:=hrx
    have e0:wr.cell? ⟨ba,oa+j*4,none⟩=some (.string k.nm):=((bcell HT.out.2).1 _ _ hba).trans (hca 0 _ rfl)
    have e1:wr.cell? ⟨ba,oa+j*4+1,none⟩=some (.bool k.actor):=((bcell HT.out.2).1 _ _ hba).trans (hca 1 _ rfl)
    have e2:wr.cell? ⟨ba,oa+j*4+2,none⟩=some (.slice F k.fields.length cf):=((bcell HT.out.2).1 _ _ hba).trans (hca 2 _ rfl)
    have e3:wr.cell? ⟨ba,oa+j*4+3,none⟩=some (.slice M k.ms.length cm):=((bcell HT.out.2).1 _ _ hba).trans (hca 3 _ rfl)
    subst hA
    have hjc:j < c:=by omega
    have HK:=lh hk
    have HBD:Hid (Below w.heap.size w (wr.alloc (.cells #[.string k.nm,.bool k.actor,.slice F k.fields.length cf,.slice M k.ms.length cm] 48))):=lh (HT.out.2.alloc HT.out.2.size _)
    clear hok hcf hf hcm hm hk hr hca hba
    by_cases h1:30 < k.fields.length
    ·have d1:decide ((30:Int) < (k.fields.length:Int))=true:=decide_eq_true (by omega)
     have HE:Hid (x=false):=lh (by cases x with
      | false=>rfl
      | true=>have:=((HX.out.1 rfl).2 k (List.mem_of_getElem? HK.out)).1;omega)
     clear h1
     go_wp2_with fail
     go_ret
     rw[HE.out];exact⟨rfl,HBD.out⟩
    ·have d1:decide ((30:Int) < (k.fields.length:Int))=false:=decide_eq_false (by omega)
     have H1:=lh h1
     clear h1
     by_cases h2:30 < k.ms.length
     ·have d2:decide ((30:Int) < (k.ms.length:Int))=true:=decide_eq_true (by omega)
      have HE:Hid (x=false):=lh (by cases x with
       | false=>rfl
       | true=>have:=((HX.out.1 rfl).2 k (List.mem_of_getElem? HK.out)).2;omega)
      clear h2
      go_wp2_with fail
      go_ret
      rw[HE.out];exact⟨rfl,HBD.out⟩
     ·have d2:decide ((30:Int) < (k.ms.length:Int))=false:=decide_eq_false (by omega)
      have H2:=lh h2
      clear h2
      go_wp2_with fail
      go_roundw
      case rel =>
       refine⟨j+1,by go_num,hlt,fun i k' hi hk'=>?_,HBD.out⟩
       by_cases e:i=j
       ·subst e
        rw[HK.out] at hk'
        injection hk' with hk'
        subst hk'
        have:=H1.out
        have:=H2.out
        omega
       ·exact HT.out.1 i k' (by omega) hk'
      case measure=>simp[intOf];omega
   ·obtain rfl:j=cs.length:=by omega
    have HE:Hid (x=true):=lh (HX.out.2 ⟨by have:=H60.out;omega,fun k hk=>by
     obtain⟨i,hi,rfl⟩:=List.mem_iff_getElem.1 hk
     exact HT.out.1 i _ hi (List.getElem?_eq_getElem hi)⟩)
    clear hlt hj
    go_wp2_with fail
    go_ret
    rw[HE.out];exact⟨rfl,HT.out.2⟩
end
theorem codeR_of {w:World} {cs:List Cls} {A:Option Addr} {c:Nat} {xs:List Value} (ho:w.ownsRow 0 48 4 (.slice A cs.length c) cs.length xs) (he:Els ClsO 4 w cs xs) (hk:okP cs):CodeR w cs A cs.length c :=
 ⟨rfl,own_le ho,hk.1,(he.ofIn fun x hx r h=>h.clsR (hk.2 x hx).1 (hk.2 x hx).2).slr (own_sl ho) rfl⟩
end
section
open Go.RowKit
attribute [local go_sem] Oper.semAt_some
section
variable {w:World} {A F:Option Addr} {c:Nat} {l:List Int} {fs:List ByteArray}
set_option maxHeartbeats 4000000 in
theorem RTexts_any {cf:Nat} (h:Sl w 1 A l.length (byts l)) (hF:Sl w 1 F fs.length (txtCells fs)) (hfc:fs.length≤cf) (hl:l.length+(encL encS fs).length≤4294967296):Calls Tryd.prog 41 #[.slice A l.length c,.slice F fs.length cf] w (EncP w (l++encL encS fs)):=by
 have hfl:fs.length≤4294967296:=by have:=encL_many encS_pos fs;omega
 have cU:=RUintZ_any (c:=c) h (show P64 (fs.length:Int) from ⟨by omega,by omega⟩) (by omega)
 have hw:IntKind.u64.wrap (fs.length:Int)=(fs.length:Int):=by rw[IntKind.wrap_u64];omega
 have HF:=lh hF
 have HL:=lh hl
 clear h hF hl
 go_enter Tryd.func41,Tryd.ntmps41
 go_wp2_with fail
 refine cU.mono ?_
 rintro e w1 ⟨v1,rfl,ho1,hb1⟩
 have H1:=lh (And.intro ho1 hb1)
 clear cU ho1 hb1
 go_wp2_with fail
 go_loopw [0,5] (fun v ix wr=>∃ (j:Nat) (l1:List Int),ix=.int .i64 (j:Int)∧j≤fs.length∧l1=l++(encU fs.length++(fs.take j).flatMap encS)∧wr.ownsRow w.heap.size 5 1 v l1.length (byts l1)∧Below w.heap.size w wr) (fun _ ix _=>fs.length - (intOf ix).toNat)
 case atStart=>exact⟨0,_,rfl,Nat.zero_le _,rfl,by rw[List.take_zero,List.flatMap_nil,List.append_nil];exact H1.out.1,H1.out.2⟩
 case round =>
  clear H1
  obtain⟨j,l1,rfl,hj,hl1,ho,hb⟩:=hrel
  obtain⟨A1,c1,rfl,_⟩:=own_shape ho
  have HO:=lh (And.intro ho (And.intro hb hl1))
  clear ho hb hl1
  by_cases hlt:j < fs.length
  ·have hx:fs[j]?=some fs[j]:=List.getElem?_eq_getElem hlt
   have hle:=encL_le encS hx
   have hs:=encS_len fs[j]
   have htk:=encL_take encS hx
   obtain⟨bb,oo,hA,hbl,hcc⟩:=HF.out.2.resolve_left (by omega)
   have e1:wr.cell? ⟨bb,oo+j,none⟩=some (.string fs[j]):=(HO.out.2.1.cell (p:=⟨bb,oo+j,none⟩) hbl).trans (hcc j _ (by unfold txtCells;rw[List.getElem?_map,hx];rfl))
   subst hA
   have hjc:j < cf:=by omega
   generalize fs[j]=s at *
   have hl1:l1.length=l.length+((encU fs.length).length+((fs.take j).flatMap encS).length):=by rw[HO.out.2.2,List.length_append,List.length_append]
   have cS:=RString_any (s:=s) (c:=c1) (own_sl HO.out.1) (by have:=HL.out;omega) (by have:=HL.out;omega)
   obtain⟨l2,hl2⟩:∃ l2,l2=l1++encS s:=⟨_,rfl⟩
   rw[← hl2] at cS
   have HL2:=lh hl2
   have HTK:=lh htk
   clear hl2 hx hle hs htk hcc hbl hl1
   go_wp2_with fail
   refine cS.mono ?_
   rintro e w2 ⟨v2,rfl,ho2,hb2⟩
   have HO2:=lh (own_base ho2 HO.out.2.1.size)
   have HB2:Hid (Below w.heap.size w w2):=lh (HO.out.2.1.trans (hb2.mono HO.out.2.1.size))
   clear cS ho2 hb2 e1
   go_wp2_with fail
   go_roundw
   case rel=>exact⟨j+1,l2,by go_num,by omega,by rw[HL2.out,HO.out.2.2,HTK.out];simp only[List.append_assoc],HO2.out,HB2.out⟩
   case measure=>simp[intOf];omega
  ·obtain rfl:j=fs.length:=by omega
   have HE:Hid (l++encL encS fs=l1):=lh (by rw[HO.out.2.2,List.take_of_length_le (Nat.le_refl _)];rfl)
   clear hlt hj
   go_wp2_with fail
   go_ret
   exact⟨_,rfl,by rw[HE.out];exact HO.out.1,HO.out.2.1⟩
end
end
end Go.Proofs.YtmbnlccafcfbeaaDoor
