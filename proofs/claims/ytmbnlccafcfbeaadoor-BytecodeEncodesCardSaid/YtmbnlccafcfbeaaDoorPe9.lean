/- Parts of the proof: Wire3. -/
import Derived.Test.YtmbnlccafcfbeaaDoorPeA
import Derived.Test.YtmbnlccafcfbeaaDoorPe8
set_option linter.unusedVariables false
set_option linter.unusedSimpArgs false
set_option linter.unusedSectionVars false
set_option maxRecDepth 100000
namespace Go.Proofs.YtmbnlccafcfbeaaDoor
section
open Go.RowKit
attribute [local go_sem] Oper.semAt_some
def encIns (x:Ins):List Int:=encI x.1++encI x.2.1++encI x.2.2
def encMth (m:Mth):List Int:=encS m.nm++encI m.p++encI m.l++encL encIns m.code++encL encS m.names
def encCls (k:Cls):List Int:=encS k.nm++encB k.actor++encL encS k.fields++encL encMth k.ms
def encCode (cs:List Cls):List Int:=encL encCls cs
theorem encL_take {α:Type} (enc:α→List Int) {l:List α} {k:Nat} {x:α} (h:l[k]?=some x):(l.take (k+1)).flatMap enc=(l.take k).flatMap enc++enc x:=by
 rw[List.take_add_one,h,List.flatMap_append];simp
theorem encL_le {α:Type} (enc:α→List Int) {l:List α} {k:Nat} {x:α} (h:l[k]?=some x):(encU l.length).length+((l.take k).flatMap enc).length+(enc x).length≤(encL enc l).length:=by
 have e:l.flatMap enc=(l.take k).flatMap enc++(enc x++(l.drop (k+1)).flatMap enc):=by
  conv=>lhs;rw[← List.take_append_drop (k+1) l]
  rw[List.flatMap_append,encL_take enc h,List.append_assoc]
 unfold encL
 rw[e]
 simp only[List.length_append]
 omega
theorem encS_len (s:ByteArray):s.size+1≤(encS s).length:=by
 unfold encS encU
 rw[List.length_append,List.length_cons,bts_len]
 omega
section
variable {w:World} {B c:Nat} {A F:Option Addr} {l:List Int} {fs:List ByteArray}
set_option maxHeartbeats 4000000 in
theorem appendStrings_any {cf:Nat} (ho:w.ownsRow B 5 1 (.slice A l.length c) l.length (byts l)) (hB:B≤w.heap.size) (hF:Sl w 1 F fs.length (txtCells fs)) (hFb:∀ b o,F=some ⟨b,o,none⟩→fs.length≠0→b < B) (hfc:fs.length≤cf) (hl:l.length+(encL encS fs).length≤4294967296):Calls Tryd.prog 27 #[.slice A l.length c,.slice F fs.length cf] w (ApP B w (.slice A l.length c) (l++encL encS fs)):=by
 have hfl:fs.length≤4294967296:=by
  have h1:∀ (k:List ByteArray),k.length≤(k.flatMap encS).length:=fun k=>by
   induction k with
   | nil=>exact Nat.le_refl _
   | cons x k ih=>have:=encS_len x;rw[List.flatMap_cons,List.length_append,List.length_cons];omega
  have:=h1 fs
  unfold encL at hl
  rw[List.length_append] at hl
  omega
 have cU:=AppendUint_any ho hB (n:=(fs.length:Int)) ⟨by omega,by omega⟩ (by omega)
 have hw0:IntKind.u64.wrap (fs.length:Int)=(fs.length:Int):=by rw[IntKind.wrap_u64];omega
 have HF:=lh hF
 have HFB:=lh hFb
 have HL:=lh hl
 have HOV:Hid (∀ q,(Value.slice A l.length c).ownBlock=some q→B≤q):=lh fun q hq=>(ho.lt q hq).1
 clear ho hF hFb hl
 go_enter Tryd.func27,Tryd.ntmps27
 go_wp2_with fail
 refine cU.mono ?_
 rintro e w1 ⟨v1,rfl,ho1,hk1,hv1⟩
 have HO1:=lh ho1
 have HK1:=lh hk1
 have HV1:=lh hv1
 clear cU ho1 hk1 hv1
 go_wp2_with fail
 go_loopw [0,14] (fun v ix wr=>∃ (j:Nat) (l1:List Int),ix=.int .i64 (j:Int)∧j≤fs.length∧l1=l++(encU fs.length++(fs.take j).flatMap encS)∧wr.ownsRow B 5 1 v l1.length (byts l1)∧Kp (fun k=>(Value.slice A l.length c).ownBlock=some k) w wr∧∀ q,v.ownBlock=some q→(Value.slice A l.length c).ownBlock=some q ∨ w.heap.size≤q) (fun _ ix _=>fs.length - (intOf ix).toNat)
 case atStart=>exact⟨0,_,rfl,Nat.zero_le _,rfl,by rw[List.take_zero,List.flatMap_nil,List.append_nil];exact HO1.out,HK1.out,HV1.out⟩
 case round =>
  clear HO1 HK1 HV1
  obtain⟨j,l1,rfl,hj,hl1,hown,hkp,hvo⟩:=hrel
  have HOW:=lh hown
  have HK:=lh hkp
  have HV:=lh hvo
  have HL1:=lh hl1
  obtain⟨A1,c1,rfl,hc1⟩:=own_shape hown
  clear hown hkp hvo hl1
  by_cases hlt:j < fs.length
  ·have hx:fs[j]?=some fs[j]:=List.getElem?_eq_getElem hlt
   have hle:=encL_le encS hx
   have hs:=encS_len fs[j]
   have htk:=encL_take encS hx
   obtain⟨bb,oo,hA,hbl,hcc⟩:=HF.out.2.resolve_left (by omega)
   have hbB:=HFB.out bb oo hA (by omega)
   have e0:w.cell? ⟨bb,oo+j,none⟩=some (.string fs[j]):=hcc j _ (by unfold txtCells;rw[List.getElem?_map,hx];rfl)
   have e1:wr.cell? ⟨bb,oo+j,none⟩=some (.string fs[j]):=HK.out.cell e0 fun e=>by have:=HOV.out bb e;omega
   subst hA
   have hjc:j < cf:=by omega
   generalize fs[j]=s at *
   have hl1:l1.length=l.length+((encU fs.length).length+((fs.take j).flatMap encS).length):=by rw[HL1.out,List.length_append,List.length_append]
   have cS:=AppendString_any (s:=s) HOW.out (Nat.le_trans hB HK.out.size) (by have:=HL.out;omega) (by have:=HL.out;omega)
   obtain⟨l2,hl2⟩:∃ l2,l2=l1++encS s:=⟨_,rfl⟩
   rw[← hl2] at cS
   have HL2:=lh hl2
   have HTK:=lh htk
   clear hl2 hx hle hs htk hcc hbl e0 hbB hl1
   go_wp2_with fail
   refine cS.mono ?_
   rintro e w2 ⟨v2,rfl,ho2,hk2,hv2⟩
   have HO2:=lh ho2
   have HKV2:Hid (Kp (fun k=>(Value.slice A l.length c).ownBlock=some k) w w2∧∀ q,v2.ownBlock=some q→(Value.slice A l.length c).ownBlock=some q ∨ w.heap.size≤q):=lh ⟨HK.out.trans hk2 fun k hk h=>(HV.out k h).resolve_right (by omega),fun q hq=>(hv2 q hq).elim (HV.out q) fun h=>.inr (Nat.le_trans HK.out.size h)⟩
   obtain⟨A2,c2,rfl,_⟩:=own_shape ho2
   clear cS ho2 hk2 hv2 e1
   go_wp2_with fail
   go_roundw
   case rel=>exact⟨j+1,l2,by go_num,by omega,by rw[HL2.out,HL1.out,HTK.out];simp only[List.append_assoc],HO2.out,HKV2.out.1,HKV2.out.2⟩
   case measure=>simp[intOf];omega
  ·obtain rfl:j=fs.length:=by omega
   have HE:Hid (l++encL encS fs=l1):=lh (by rw[HL1.out,List.take_of_length_le (Nat.le_refl _)];rfl)
   clear hlt hj
   go_wp2_with fail
   go_ret
   exact⟨_,rfl,by rw[HE.out];exact HOW.out,HK.out,HV.out⟩
end
end
end Go.Proofs.YtmbnlccafcfbeaaDoor
