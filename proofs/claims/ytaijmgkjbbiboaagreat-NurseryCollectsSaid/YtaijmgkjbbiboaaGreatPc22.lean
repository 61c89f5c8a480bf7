/- Parts of the proof: NurA. -/
import Derived.Deep.AppendLies
import Derived.Deep.DeepCutAuto
import Derived.Deep.LoopGhost
import Derived.Test.YtaijmgkjbbiboaaGreatPcA
import Derived.WalkMore
import Derived.WalkSmall
import Derived.Test.YtaijmgkjbbiboaaGreatPc15
import Derived.Test.YtaijmgkjbbiboaaGreatPc20
import Derived.Test.YtaijmgkjbbiboaaGreatPc7
set_option linter.unusedVariables false
set_option linter.unusedSimpArgs false
set_option linter.unusedSectionVars false
set_option maxRecDepth 100000
namespace Go.Proofs.YtaijmgkjbbiboaaGreat
section
open Go.RowKit Go.Maps
attribute [local go_sem] Oper.semAt_some
def ldP (o:Option (Option Int)):Value:=match o with
 | some none=>.tuple #[.int .i64 0,.bool false,.bool false]
 | none=>.tuple #[.int .i64 0,.bool true,.bool true]
 | some (some r)=>.tuple #[.int .i64 r,.bool true,.bool false]
theorem resolve_bad {m:Mm} {a:Int} (h:(m.resolve a).2≠0):(m.resolve a).1=0:=by
 unfold Mm.resolve at h ⊢
 split
 ·rfl
 ·rename_i h0
  rw[if_neg h0] at h
  split
  ·rename_i b hb;rw[hb] at h;exact absurd rfl h
  ·rfl
section
variable {w:World} {B g1 g2:Nat} {V1 V2:Value} {m:Mm}
set_option maxHeartbeats 2000000 in
theorem nleads_any (h:MR w B g1 g2 V1 V2 m) {x:Int} (hx:U64 x):Calls Tryz.prog 58 #[.agg #[.pointer (some ⟨g1,0,none⟩),.pointer (some ⟨g2,0,none⟩)],.int .u64 x] w fun e w'=>e=.returned (ldP (m.ld x))∧Below w.heap.size w w':=by
 have HB:=lh (boxM w g1 g2)
 have cA:=fun w=>Address_any hx w
 unfold adrV at cA
 have hld:m.ld x=if ygW x=true then m.rfr x else some none:=rfl
 unfold ygW at hld
 cases hd:adr x with
 | none =>
  rw[hd] at hld
  have HR:=lh (show m.ld x=some none from hld)
  simp only[hd] at cA
  clear h hd hld
  go_enter Tryz.func58,Tryz.ntmps58
  go_wp2_with fail
  refine(cA _).mono ?_
  rintro e w1 ⟨rfl,rfl⟩
  go_wp2_with fail
  go_ret3
  rw[HR.out]
  exact⟨rfl,HB.out⟩
 | some a =>
  have hab:=adr_bound hx hd
  simp only[hd] at cA hld
  by_cases hy:16777216≤a
  ·rw[if_pos (by simpa using hy)] at hld
   have hlt:decide (a < 16777216)=false:=decide_eq_false (by omega)
   have cR:=MResolve_any (h.below HB.out) a
   have q:Hid (Bk (w.alloc (.cells #[.pointer (some ⟨g1,0,none⟩),.pointer (some ⟨g2,0,none⟩)] 29)) w.heap.size 29 #[.pointer (some ⟨g1,0,none⟩),.pointer (some ⟨g2,0,none⟩)]):=lh (Bk.new _ _ _)
   by_cases he:(m.resolve a).2=0
   ·have HR:=lh (show m.ld x=some (some (m.resolve a).1) by rw[hld];unfold Mm.rfr;rw[hd];simp only;rw[if_pos he])
    rw[he] at cR
    obtain⟨r,hto⟩:∃ r,r=(m.resolve a).1:=⟨_,rfl⟩
    rw[← hto] at cR HR
    unfold memV at cR
    clear h hd he hto hld hab
    go_enter Tryz.func58,Tryz.ntmps58
    go_wp2_with fail
    refine(cA _).mono ?_
    rintro e w1 ⟨rfl,rfl⟩
    go_wp2_with fail
    refine cR.mono ?_
    rintro e w2 ⟨rfl,hb⟩
    have HB2:=lh (HB.out.trans (hb.mono HB.out.size))
    clear hb
    go_wp2_with fail
    go_ret3
    rw[HR.out]
    exact⟨rfl,HB2.out⟩
   ·have HR:=lh (show m.ld x=none by rw[hld];unfold Mm.rfr;rw[hd];simp only;rw[if_neg he])
    obtain⟨er,her⟩:∃ er,er=(m.resolve a).2:=⟨_,rfl⟩
    rw[resolve_bad he,← her] at cR
    rw[← her] at he
    have e1:(er == 0)=false:=by simp[he]
    have e2:(er != 0)=true:=by simp[he]
    unfold memV at cR
    clear h hd he her hld hab
    go_enter Tryz.func58,Tryz.ntmps58
    go_wp2_with fail
    refine(cA _).mono ?_
    rintro e w1 ⟨rfl,rfl⟩
    go_wp2_with fail
    refine cR.mono ?_
    rintro e w2 ⟨rfl,hb⟩
    have HB2:=lh (HB.out.trans (hb.mono HB.out.size))
    clear hb
    go_wp2_with fail
    go_ret3
    rw[HR.out]
    exact⟨rfl,HB2.out⟩
  ·rw[if_neg (by simpa using hy)] at hld
   have HR:=lh hld
   have hlt:decide (a < 16777216)=true:=decide_eq_true (by omega)
   clear h hd hld hab
   go_enter Tryz.func58,Tryz.ntmps58
   go_wp2_with fail
   refine(cA _).mono ?_
   rintro e w1 ⟨rfl,rfl⟩
   go_wp2_with fail
   go_ret3
   rw[HR.out]
   exact⟨rfl,HB.out⟩
/-- the addresses of the slots of an object -/
def Mm.slA (m:Mm) (a:Int):List Int:=(List.range (slotN (m.hdr a).2).toNat).map fun(i:Nat)=>a+2+(i:Int)
theorem Mm.slA_take (m:Mm) (a:Int) {j:Nat} (h:j < (slotN (m.hdr a).2).toNat):(m.slA a).take (j+1)=(m.slA a).take j++[a+2+(j:Int)]:=by
 have e:(m.slA a)[j]?=some (a+2+(j:Int)):=by unfold Mm.slA;rw[List.getElem?_map,List.getElem?_range h];rfl
 rw[List.take_add_one,e]
 rfl
theorem Mm.slA_len (m:Mm) (a:Int):(m.slA a).length=(slotN (m.hdr a).2).toNat:=by unfold Mm.slA;simp
set_option maxHeartbeats 4000000 in
theorem nslots_any (h:MR w B g1 g2 V1 V2 m) (a:Int):Calls Tryz.prog 102 #[.agg #[.pointer (some ⟨g1,0,none⟩),.pointer (some ⟨g2,0,none⟩)],.int .i64 a] w fun e w'=>∃ v,e=.returned v∧w'.ownsRow w.heap.size 3 1 v (m.slA a).length (ints (m.slA a))∧Below w.heap.size w w':=by
 have HB:=lh (boxM w g1 g2)
 have cH:=MHdr_of (h.below HB.out) a
 have HQ:=lh (Bk.new w 29 #[.pointer (some ⟨g1,0,none⟩),.pointer (some ⟨g2,0,none⟩)])
 have hz:(m.hdr a).1≠0→(m.hdr a).2=Hdr.zero:=Mm.hdr_zero
 have hr:(m.hdr a).1=0→0≤a∧a≤4294967295:=fun e=>hdr_rg h.ok e
 have hvv:(m.hdr a).1=0→0≤(m.hdr a).2.f∧(m.hdr a).2.f≤30:=fun e=>by have:=vH_bound (Mm.hdr_valid e);omega
 have hst:∀ j:Nat,j < (slotN (m.hdr a).2).toNat→(m.slA a).take (j+1)=(m.slA a).take j++[a+2+(j:Int)]:=fun j hj=>m.slA_take a hj
 have hsl:=m.slA_len a
 obtain⟨L,hL⟩:∃ L,L=m.slA a:=⟨_,rfl⟩
 rw[← hL]
 rw[← hL] at hst hsl
 obtain⟨i0,hi,hz0,hz1,hz2⟩:=info_parts Tryz.infoI
 have HI:=lh (And.intro hi (And.intro hz0 (And.intro hz1 hz2)))
 obtain⟨nn,hnn⟩:∃ nn:Nat,nn=(slotN (m.hdr a).2).toNat:=⟨_,rfl⟩
 rw[← hnn] at hst hsl
 have HST:=lh hst
 have HSL:=lh hsl
 unfold slotN at hnn
 generalize (m.hdr a).1=er at *
 generalize (m.hdr a).2=hd at *
 obtain⟨hk,hc,hf⟩:=hd
 dsimp only at hnn hvv cH
 have hcs:(er≠0∧nn=0) ∨ (er=0∧hk=3∧nn=0) ∨ (er=0∧hk=4∧nn=1∧0≤a∧a≤4294967295) ∨ (er=0∧hk≠3∧hk≠4∧hf=(nn:Int)∧nn≤30∧0≤a∧a≤4294967295):=by
  by_cases e0:er=0
  ·have h1:=hvv e0
   have h2:=hr e0
   by_cases e3:hk=3
   ·rw[if_pos e3] at hnn
    exact .inr (.inl ⟨e0,e3,hnn⟩)
   ·rw[if_neg e3] at hnn
    by_cases e4:hk=4
    ·rw[if_pos e4] at hnn
     exact .inr (.inr (.inl ⟨e0,e4,hnn,h2⟩))
    ·rw[if_neg e4] at hnn
     exact .inr (.inr (.inr ⟨e0,e3,e4,by omega,by omega,h2⟩))
  ·have h1:=hz e0
   injection h1 with h1 h2 h3
   subst h1 h2 h3
   exact .inl ⟨e0,hnn⟩
 clear h hz hr hvv hst hsl hL hi hz0 hz1 hz2 hnn
 rcases hcs with ⟨e0,hn⟩ | ⟨e0,e3,hn⟩ | ⟨e0,e4,hn,hr⟩ | ⟨e0,e3,e4,hn,hn30,hr⟩
 ·have e1:(er != 0)=true:=by simp[e0]
  subst hn
  go_enter Tryz.func102,Tryz.ntmps102
  go_wp2_with fail
  refine cH.mono ?_
  rintro e w2 ⟨rfl,hb⟩
  have HB2:=lh (HB.out.trans (hb.mono HB.out.size))
  have HN:=lh (Bk.new w2 58 #[.int .i64 hk,.int .i64 hc,.int .i64 hf])
  clear hb cH
  go_wp2_with fail
  go_loopw [8,31] (fun v i wr=>∃ j:Nat,i=.int .i64 (j:Int)∧j≤0∧wr.ownsRow w.heap.size 3 1 v j (ints (L.take j))∧Below w.heap.size w wr) (fun v i _=>0 - (intOf i).toNat)
  case atStart=>exact⟨0,rfl,Nat.zero_le _,⟨rfl,.inl ⟨rfl,rfl⟩⟩,HB2.out.alloc HB2.out.size _⟩
  case round =>
   obtain⟨j,rfl,hj,hown,hbr⟩:=hrel
   have HOWN:=lh hown
   have HBR:=lh hbr
   clear hown hbr
   have hj0:j=0:=by omega
   subst hj0
   have hlt:¬ ((0:Nat):Int) < 0:=by omega
   have hj2:0=0:=rfl
   have hO:=HOWN.out
   rw[List.take_of_length_le (by have:=HSL.out;omega)] at hO
   have HO:=lh hO
   clear hO
   go_wp2_with fail
   go_ret
   refine⟨_,rfl,?_,HBR.out⟩
   rw[HSL.out]
   exact HO.out
 ·subst e0 e3 hn
  go_enter Tryz.func102,Tryz.ntmps102
  go_wp2_with fail
  refine cH.mono ?_
  rintro e w2 ⟨rfl,hb⟩
  have HB2:=lh (HB.out.trans (hb.mono HB.out.size))
  have HN:=lh (Bk.new w2 58 #[.int .i64 3,.int .i64 hc,.int .i64 hf])
  clear hb cH
  go_wp2_with fail
  go_loopw [8,31] (fun v i wr=>∃ j:Nat,i=.int .i64 (j:Int)∧j≤0∧wr.ownsRow w.heap.size 3 1 v j (ints (L.take j))∧Below w.heap.size w wr) (fun v i _=>0 - (intOf i).toNat)
  case atStart=>exact⟨0,rfl,Nat.zero_le _,⟨rfl,.inl ⟨rfl,rfl⟩⟩,HB2.out.alloc HB2.out.size _⟩
  case round =>
   obtain⟨j,rfl,hj,hown,hbr⟩:=hrel
   have HOWN:=lh hown
   have HBR:=lh hbr
   clear hown hbr
   have hj0:j=0:=by omega
   subst hj0
   have hlt:¬ ((0:Nat):Int) < 0:=by omega
   have hj2:0=0:=rfl
   have hO:=HOWN.out
   rw[List.take_of_length_le (by have:=HSL.out;omega)] at hO
   have HO:=lh hO
   clear hO
   go_wp2_with fail
   go_ret
   refine⟨_,rfl,?_,HBR.out⟩
   rw[HSL.out]
   exact HO.out
 ·subst e0 e4 hn
  go_enter Tryz.func102,Tryz.ntmps102
  go_wp2_with fail
  refine cH.mono ?_
  rintro e w2 ⟨rfl,hb⟩
  have HB2:=lh (HB.out.trans (hb.mono HB.out.size))
  have HN:=lh (Bk.new w2 58 #[.int .i64 4,.int .i64 hc,.int .i64 hf])
  clear hb cH
  go_wp2_with fail
  go_loopw [8,31] (fun v i wr=>∃ j:Nat,i=.int .i64 (j:Int)∧j≤1∧wr.ownsRow w.heap.size 3 1 v j (ints (L.take j))∧Below w.heap.size w wr) (fun v i _=>1 - (intOf i).toNat)
  case atStart=>exact⟨0,rfl,Nat.zero_le _,⟨rfl,.inl ⟨rfl,rfl⟩⟩,HB2.out.alloc HB2.out.size _⟩
  case round =>
   obtain⟨j,rfl,hj,hown,hbr⟩:=hrel
   have HOWN:=lh hown
   have HBR:=lh hbr
   clear hown hbr
   by_cases hlt:(j:Int) < 1
   ·have hlt2:j < 1:=by omega
    have HS:=lh (HST.out j (by omega))
    have hwp:IntKind.i64.wrap (a+2)=a+2:=IntWalk.i64_in _ (by omega)
    have hwp2:IntKind.i64.wrap (a+2+(j:Int))=a+2+(j:Int):=IntWalk.i64_in _ (by omega)
    have hsz:=HBR.out.size
    obtain⟨A0,c0,rfl,hac⟩:=own_shape HOWN.out
    go_wp2_with (at_builtin;refine wpList_append_own_at _ rfl (.tmp 34) (.tmp 39) 23 rfl w.heap.size 3 i0 (.int .i64 0) 1 8 Tryz.underlying23 HI.out.1 HI.out.2.1 HI.out.2.2.1 HI.out.2.2.2 rfl (by decide) _ j _ rfl (HOWN.out.alloc _) ⟨wr.heap.size,0,none⟩ 1 1 [.int .i64 (a+2+(j:Int))] rfl rfl (cell_one_new _ _ _) (by simp[Value.oneCell']) (by unfold maxLen;omega) (by omega) (by simp;omega) ?_;intro v' w3 hown3 hg3 _ hloc;have HOWN3:=lh hown3;have HG3:=lh hg3;clear hown3 hg3 hloc hwp hwp2)
    go_roundw
    case rel =>
     refine⟨j+1,by go_num,by omega,?_,?_⟩
     ·rw[HS.out,show ints (L.take j++[a+2+(j:Int)])=ints (L.take j)++[.int .i64 (a+2+(j:Int))] by simp[ints]]
      exact HOWN3.out
     ·exact(HBR.out.alloc (by omega) _).grown HG3.out (by simp;omega) (fun k hk=>(HOWN.out.lt k hk).1)
    case measure=>simp[intOf];omega
   ·have hlt2:¬ j < 1:=by omega
    have hj2:j=1:=by omega
    have hO:=HOWN.out
    rw[hj2,List.take_of_length_le (by have:=HSL.out;omega)] at hO
    have HO:=lh hO
    clear hO
    go_wp2_with fail
    go_ret
    refine⟨_,rfl,?_,HBR.out⟩
    rw[HSL.out]
    exact HO.out
 ·subst e0 hn
  have g3:(hk == 3)=false:=by simp[e3]
  have g4:(hk == 4)=false:=by simp[e4]
  go_enter Tryz.func102,Tryz.ntmps102
  go_wp2_with fail
  refine cH.mono ?_
  rintro e w2 ⟨rfl,hb⟩
  have HB2:=lh (HB.out.trans (hb.mono HB.out.size))
  have HN:=lh (Bk.new w2 58 #[.int .i64 hk,.int .i64 hc,.int .i64 (nn:Int)])
  clear hb cH
  go_wp2_with fail
  go_loopw [8,31] (fun v i wr=>∃ j:Nat,i=.int .i64 (j:Int)∧j≤nn∧wr.ownsRow w.heap.size 3 1 v j (ints (L.take j))∧Below w.heap.size w wr) (fun v i _=>nn - (intOf i).toNat)
  case atStart=>exact⟨0,rfl,Nat.zero_le _,⟨rfl,.inl ⟨rfl,rfl⟩⟩,HB2.out.alloc HB2.out.size _⟩
  case round =>
   obtain⟨j,rfl,hj,hown,hbr⟩:=hrel
   have HOWN:=lh hown
   have HBR:=lh hbr
   clear hown hbr
   by_cases hlt:j < nn
   ·have hlt2:(j:Int) < (nn:Int):=by omega
    have HS:=lh (HST.out j (by omega))
    have hwp:IntKind.i64.wrap (a+2)=a+2:=IntWalk.i64_in _ (by omega)
    have hwp2:IntKind.i64.wrap (a+2+(j:Int))=a+2+(j:Int):=IntWalk.i64_in _ (by omega)
    have hsz:=HBR.out.size
    obtain⟨A0,c0,rfl,hac⟩:=own_shape HOWN.out
    go_wp2_with (at_builtin;refine wpList_append_own_at _ rfl (.tmp 34) (.tmp 39) 23 rfl w.heap.size 3 i0 (.int .i64 0) 1 8 Tryz.underlying23 HI.out.1 HI.out.2.1 HI.out.2.2.1 HI.out.2.2.2 rfl (by decide) _ j _ rfl (HOWN.out.alloc _) ⟨wr.heap.size,0,none⟩ 1 1 [.int .i64 (a+2+(j:Int))] rfl rfl (cell_one_new _ _ _) (by simp[Value.oneCell']) (by unfold maxLen;omega) (by omega) (by simp;omega) ?_;intro v' w3 hown3 hg3 _ hloc;have HOWN3:=lh hown3;have HG3:=lh hg3;clear hown3 hg3 hloc hwp hwp2)
    go_roundw
    case rel =>
     refine⟨j+1,by go_num,by omega,?_,?_⟩
     ·rw[HS.out,show ints (L.take j++[a+2+(j:Int)])=ints (L.take j)++[.int .i64 (a+2+(j:Int))] by simp[ints]]
      exact HOWN3.out
     ·exact(HBR.out.alloc (by omega) _).grown HG3.out (by simp;omega) (fun k hk=>(HOWN.out.lt k hk).1)
    case measure=>simp[intOf];omega
   ·have hlt2:¬ (j:Int) < (nn:Int):=by omega
    have hj2:j=nn:=by omega
    have hO:=HOWN.out
    rw[hj2,List.take_of_length_le (by have:=HSL.out;omega)] at hO
    have HO:=lh hO
    clear hO
    go_wp2_with fail
    go_ret
    refine⟨_,rfl,?_,HBR.out⟩
    rw[HSL.out]
    exact HO.out
end
end
end Go.Proofs.YtaijmgkjbbiboaaGreat
