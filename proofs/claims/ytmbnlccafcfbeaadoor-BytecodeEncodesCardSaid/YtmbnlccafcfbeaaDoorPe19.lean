/- Parts of the proof: Few, Format. -/
import Derived.Deep.CutBlock
import Derived.Deep.DeepCutAuto
import Derived.Deep.LoopGhost
import Derived.Deep.RegionHeld3
import Derived.Test.YtmbnlccafcfbeaaDoorPeA
import Derived.Test.YtmbnlccafcfbeaaDoorPe0
import Derived.Test.YtmbnlccafcfbeaaDoorPe8
set_option linter.unusedVariables false
set_option linter.unusedSimpArgs false
set_option linter.unusedSectionVars false
set_option maxRecDepth 100000
namespace Go.Proofs.YtmbnlccafcfbeaaDoor
section
open Go.RowKit
/-- n has passed the bound for good, or all before k is small -/
def FewTo {α:Type} (P:α→Prop) (xs:List α) (k:Nat) (n most:Int):Prop:=0≤n∧n≤1000000000000000∧(n≤most→∀ i x,i < k→xs[i]?=some x→P x)
theorem FewTo.start {α:Type} (P:α→Prop) (xs:List α) {n most:Int} (h0:0≤n) (h1:n≤1000000000000000):FewTo P xs 0 n most:=⟨h0,h1,fun _ i x hi=>by omega⟩
def FewPost (w:World) (cs:List Cls) (most:Int) (e:Ending) (w':World):Prop:=(∃ b:Bool,e=.returned (.bool b)∧(b=true→fewP cs most.toNat))∧Below w.heap.size w w'
theorem small_of {s most z:Int} (hs:0≤s) (m0:1≤most) (hz:0≤z) (h:z+s / 100*most≤most):s < 200:=by
 rcases (show s < 200 ∨ 200≤s by omega) with h1 | h1
 ·exact h1
 ·have h2:2≤s / 100:=by omega
  have h3:2*most≤s / 100*most:=Int.mul_le_mul_of_nonneg_right h2 (by omega)
  omega
theorem mul_facts {s most:Int} (hs:0≤s) (h:s≤140737488351232) (m0:1≤most) (m1:most≤100):0≤s / 100∧0≤s / 100*most∧s / 100*most≤140737488351232:=by
 have h0:0≤s / 100:=by omega
 have h1:s / 100≤1407374883512:=by omega
 have h2:=Int.mul_le_mul h1 m1 (by omega) (by omega)
 exact⟨h0,Int.mul_nonneg h0 (by omega),by omega⟩
section
variable {w:World} {A:Option Addr} {n c:Nat} {cs:List Cls} {most:Int}
set_option maxHeartbeats 4000000 in
theorem Few_any (hC:CodeR w cs A n c) (m0:1≤most) (m1:most≤100) :
  Calls Tryd.prog 7 #[.agg #[.slice A n c],.int .i64 most] w (FewPost w cs most):=by
 have HC:=lh (hC.below ((Below.refl _ _).alloc (Nat.le_refl _) (.cells #[.slice A n c] 24)))
 have hn1:=hC.2.2.1
 have hnc:=hC.2.1
 have hb0:Below w.heap.size w (w.alloc (.cells #[.slice A n c] 24)):=(Below.refl _ _).alloc (Nat.le_refl _) _
 have HB0:=lh hb0
 have hs0:w.heap.size < (w.alloc (.cells #[.slice A n c] 24)).heap.size:=by simp
 have hbk:Bk (w.alloc (.cells #[.slice A n c] 24)) w.heap.size 24 #[.slice A n c]:=Bk.new _ _ _
 have HBK:=lh hbk
 clear hC hb0 hbk
 go_enter Tryd.func7,Tryd.ntmps7
 go_upto_region 2 with fail
 obtain⟨W,hW⟩:∃ W,W=w.alloc (.cells #[.slice A n c] 24):=⟨_,rfl⟩
 rw[← hW] at HC HB0 hs0 HBK ⊢
 clear hW
 go_wp2_with fail
 go_loopg [5,6] (n) (fun q v i wr=>∃ (k:Nat) (z:Int),i=.int .i64 k∧k+q=n∧v=.int .i64 z∧FewTo (fun x:Cls=>x.few most.toNat) cs k z most∧(n:Int)≤z∧Below W.heap.size W wr)
 case atStart=>exact⟨0,n,rfl,by omega,rfl,FewTo.start _ _ (by omega) (by omega),Int.le_refl _,Below.refl _ _⟩
 case round =>
  obtain⟨k,z,rfl,hkq,rfl,hf,hnz,hB⟩:=hrel
  obtain⟨z0,z1,hfk⟩:=hf
  have HF:=lh hfk
  have b0:wr.cell? ⟨w.heap.size,0,none⟩=some (.slice A n c):=(HBK.out.below hB hs0).cell 0
  have HB:=lh hB
  have hsz:=hB.size
  clear hfk hB
  by_cases hk:k < n∧z≤most
  ·obtain⟨hkn,hzm⟩:=hk
   cases gk with
   | zero=>omega
   | succ q =>
    obtain⟨wo,rfl⟩:∃ wo:World,wo=wr:=⟨_,rfl⟩
    obtain⟨cb,co,x,r,hA,hcb,hx,hrl,⟨hok,F,fc,M,mc,hr,hfc,hF,hmc,hM⟩,hcells⟩:=HC.out.2.2.2.get hkn
    subst hA
    subst hr
    have hx0:wo.cell? ⟨cb,co+k*4,none⟩=some (.string x.nm):=(HB.out.cell (p:=⟨cb,co+k*4,none⟩) hcb).trans (hcells 0 _ rfl)
    have hx1:wo.cell? ⟨cb,co+k*4+1,none⟩=some (.bool x.actor):=(HB.out.cell (p:=⟨cb,co+k*4+1,none⟩) hcb).trans (hcells 1 _ rfl)
    have hx2:wo.cell? ⟨cb,co+k*4+2,none⟩=some (.slice F x.fields.length fc):=(HB.out.cell (p:=⟨cb,co+k*4+2,none⟩) hcb).trans (hcells 2 _ rfl)
    have hx3:wo.cell? ⟨cb,co+k*4+3,none⟩=some (.slice M x.ms.length mc):=(HB.out.cell (p:=⟨cb,co+k*4+3,none⟩) hcb).trans (hcells 3 _ rfl)
    have l1:=hok.nm
    have l2:=hok.lf
    have l3:=hok.lm
    have hkc:k < c:=by omega
    have HX:=lh hx
    have HOK:=lh hok
    have HFF:=lh (hF.below HB.out)
    have HMM:=lh (hM.mths HB.out)
    obtain⟨hq0,hq2,hq1⟩:=mul_facts (s:=(x.nm.size:Int)) (most:=most) (by omega) (by omega) m0 m1
    clear hx hok hF hM hcells
    go_upto_block 2 with fail
    have hbw1:Below W.heap.size W (wo.alloc (.cells #[.string x.nm,.bool x.actor,.slice F x.fields.length fc,.slice M x.ms.length mc] 48)):=HB.out.alloc hsz _
    have hbk1:Bk (wo.alloc (.cells #[.string x.nm,.bool x.actor,.slice F x.fields.length fc,.slice M x.ms.length mc] 48)) wo.heap.size 48 #[.string x.nm,.bool x.actor,.slice F x.fields.length fc,.slice M x.ms.length mc]:=Bk.new _ _ _
    have hbr:Below wo.heap.size wo (wo.alloc (.cells #[.string x.nm,.bool x.actor,.slice F x.fields.length fc,.slice M x.ms.length mc] 48)):=(Below.refl _ _).alloc (Nat.le_refl _) _
    obtain⟨W1,hW1⟩:∃ W1,W1=wo.alloc (.cells #[.string x.nm,.bool x.actor,.slice F x.fields.length fc,.slice M x.ms.length mc] 48):=⟨_,rfl⟩
    rw[← hW1] at hbw1 hbk1 hbr ⊢
    clear hW1
    have HF1:=lh (HFF.out.below hbr)
    have HM1:=lh (HMM.out.mths hbr)
    have HBW1:=lh hbw1
    have HBK1:=lh hbk1
    have cF:W1.cell? ⟨wo.heap.size,2,none⟩=some (.slice F x.fields.length fc):=hbk1.cell 2
    obtain⟨z2,hz2⟩:∃ z2,z2=z+x.fields.length+x.ms.length+(x.nm.size:Int) / 100*most:=⟨_,rfl⟩
    have h20:z≤z2:=by omega
    have h21:z2≤700000000000000:=by omega
    have HZ2:=lh hz2
    rw[← hz2]
    obtain⟨qo,hqo⟩:∃ qo,qo=q:=⟨q,rfl⟩
    subst hqo
    clear hz2 hq0 hq1 hq2 hbw1 hbk1 hbr hx0 hx1 hx2 hx3 b0 HFF HMM
    go_cut [5,8] from 48 to 70 (fun s5 s8 wx=>∃ z3:Int,s5=.int .i64 z3∧z2≤z3∧z3≤1000000000000000∧(z3≤most→∀ s∈x.fields,s.size < 200)∧wx=W1)
    case first =>
     go_wp2_with fail
     go_loopg [5,8] (x.fields.length) (fun q v i wr=>∃ (k2:Nat) (z3:Int),i=.int .i64 k2∧k2+q=x.fields.length∧v=.int .i64 z3∧z2≤z3∧z3≤1000000000000000∧(z3≤most→∀ (i:Nat) (s:ByteArray),i < k2→x.fields[i]?=some s→s.size < 200)∧wr=W1)
     case atStart=>exact⟨0,z2,rfl,by omega,rfl,Int.le_refl _,by omega,fun _ i s hi=>by omega,rfl⟩
     case round =>
      obtain⟨k2,z3,rfl,hk2,rfl,h30,h31,hall,rfl⟩:=hrel
      have HALL:=lh hall
      clear hall
      by_cases hlt:k2 < x.fields.length
      ·by_cases hz3:z3≤most
       ·cases gk with
        | zero=>omega
        | succ q =>
         obtain⟨fb,fo,hFA,hfb,hfcell⟩:=HF1.out.get hlt
         subst hFA
         obtain⟨s,hs⟩:∃ s,x.fields[k2]?=some s:=⟨_,List.getElem?_eq_getElem hlt⟩
         have cs:wr.cell? ⟨fb,fo+k2,none⟩=some (.string s):=hfcell k2 _ (by simp[txtCells,hs])
         have hs1:=HOK.out.fields s (List.mem_of_getElem? hs)
         obtain⟨p0,p2,p1⟩:=mul_facts (s:=(s.size:Int)) (most:=most) (by omega) (by omega) m0 m1
         have hkf:k2 < fc:=by omega
         have HS:=lh hs
         clear hs hfcell
         go_wp2_with fail
         go_roundg q
         case measure=>omega
         case rel =>
          refine⟨k2+1,z3+(s.size:Int) / 100*most,by go_num,by omega,rfl,by omega,by omega,fun hh i s' hi hs'=>?_,rfl⟩
          by_cases hik:i < k2
          ·exact HALL.out hz3 i s' hik hs'
          ·obtain rfl:i=k2:=by omega
           have hs2:=HS.out
           rw[hs'] at hs2
           cases hs2
           have:=small_of (s:=(s.size:Int)) (z:=z3) (by omega) m0 (by omega) hh
           omega
       ·go_wp2_with fail
        go_meet
        exact⟨z3,rfl,h30,h31,fun hh=>by omega,rfl⟩
      ·obtain rfl:k2=x.fields.length:=by omega
       go_wp2_with fail
       go_meet
       refine⟨z3,rfl,h30,h31,fun hh s hs=>?_,rfl⟩
       obtain⟨i,hi⟩:=List.mem_iff_getElem?.1 hs
       exact HALL.out hh i s (List.getElem?_eq_some_iff.1 hi).1 hi
    case rest =>
     obtain⟨z3,rfl,h30,h31,hfields,rfl⟩:=hcut
     have HFIELDS:=lh hfields
     clear hfields cF
     obtain⟨w1,rfl⟩:∃ w1:World,w1=wc:=⟨_,rfl⟩
     have cM:w1.cell? ⟨wo.heap.size,3,none⟩=some (.slice M x.ms.length mc):=HBK1.out.cell 3
     have hlt1:wo.heap.size < w1.heap.size:=HBK1.out.lt
     go_upto_block 4 with fail
     have hend4:∀ z4:Int,z3≤z4→(z4≤most→∀ (i:Nat) (m:Mth),i < x.ms.length→x.ms[i]?=some m→m.few most.toNat)→(z4≤most→∀ (i:Nat) (x:Cls),i < k+1→cs[i]?=some x→x.few most.toNat):=fun z4 h40 hms hh i x' hi hx'=>by
      by_cases hik:i < k
      ·exact HF.out hzm i x' hik hx'
      ·obtain rfl:i=k:=by omega
       have hx2:=HX.out
       rw[hx'] at hx2
       cases hx2
       have e2:=HZ2.out
       obtain⟨_,p2,_⟩:=mul_facts (s:=(x.nm.size:Int)) (most:=most) (by omega) (by omega) m0 m1
       have:=small_of (s:=(x.nm.size:Int)) (z:=0) (by omega) m0 (by omega) (by omega)
       refine⟨by omega,by omega,by omega,HFIELDS.out (by omega),fun m hm=>?_⟩
       obtain⟨j,hj⟩:=List.mem_iff_getElem?.1 hm
       exact hms hh j m (List.getElem?_eq_some_iff.1 hj).1 hj
     have HEND4:=lh hend4
     clear hend4
     focus
      go_wp2_with fail
      go_loopg [5,9] (x.ms.length) (fun q v i wr=>∃ (k2:Nat) (z4:Int),i=.int .i64 k2∧k2+q=x.ms.length∧v=.int .i64 z4∧z3≤z4∧z4≤1000000000000000∧(z4≤most→∀ (i:Nat) (m:Mth),i < k2→x.ms[i]?=some m→m.few most.toNat)∧Below w1.heap.size w1 wr)
      case atStart=>exact⟨0,z3,rfl,by omega,rfl,Int.le_refl _,by omega,fun _ i s hi=>by omega,Below.refl _ _⟩
      case round =>
       obtain⟨k2,z4,rfl,hk2,rfl,h40,h41,hall,hbr⟩:=hrel
       have HALL:=lh hall
       obtain⟨wp,rfl⟩:∃ wp:World,wp=wr:=⟨_,rfl⟩
       have cM':=((bcell hbr).1 _ 3 hlt1).trans cM
       have hz12:=hbr.size
       have HBR:=lh hbr
       clear hall hbr cM
       by_cases hlt:k2 < x.ms.length
       ·by_cases hz4:z4≤most
        ·cases gk with
         | zero=>omega
         | succ q =>
          obtain⟨mb,mo,m,r,hMA,hmb,hm,hrl,⟨hok,cA,cc,nB,nc,hr,hcc,_,hnc',hnS⟩,hcells⟩:=HM1.out.get hlt
          subst hMA
          subst hr
          have y0:wp.cell? ⟨mb,mo+k2*5,none⟩=some (.string m.nm):=((bcell HBR.out).1 _ _ hmb).trans (hcells 0 _ rfl)
          have y1:wp.cell? ⟨mb,mo+k2*5+1,none⟩=some (.int .i64 m.p):=((bcell HBR.out).1 _ _ hmb).trans (hcells 1 _ rfl)
          have y2:wp.cell? ⟨mb,mo+k2*5+2,none⟩=some (.int .i64 m.l):=((bcell HBR.out).1 _ _ hmb).trans (hcells 2 _ rfl)
          have y3:wp.cell? ⟨mb,mo+k2*5+3,none⟩=some (.slice cA m.code.length cc):=((bcell HBR.out).1 _ _ hmb).trans (hcells 3 _ rfl)
          have y4:wp.cell? ⟨mb,mo+k2*5+4,none⟩=some (.slice nB m.names.length nc):=((bcell HBR.out).1 _ _ hmb).trans (hcells 4 _ rfl)
          have l4:=hok.nm
          have l5:=hok.lc
          have l6:=hok.ln
          have hkm:k2 < mc:=by omega
          obtain⟨p0,p2,p1⟩:=mul_facts (s:=(m.nm.size:Int)) (most:=most) (by omega) (by omega) m0 m1
          have HMK:=lh hok
          have HMM:=lh hm
          have HNS:=lh (hnS.below HBR.out)
          clear hok hm hnS hcells
          go_upto_block 6 with fail
          have hbk2:Bk (wp.alloc (.cells #[.string m.nm,.int .i64 m.p,.int .i64 m.l,.slice cA m.code.length cc,.slice nB m.names.length nc] 43)) wp.heap.size 43 #[.string m.nm,.int .i64 m.p,.int .i64 m.l,.slice cA m.code.length cc,.slice nB m.names.length nc]:=Bk.new _ _ _
          have hbr2:Below wp.heap.size wp (wp.alloc (.cells #[.string m.nm,.int .i64 m.p,.int .i64 m.l,.slice cA m.code.length cc,.slice nB m.names.length nc] 43)):=(Below.refl _ _).alloc (Nat.le_refl _) _
          obtain⟨W2,hW2⟩:∃ W2,W2=wp.alloc (.cells #[.string m.nm,.int .i64 m.p,.int .i64 m.l,.slice cA m.code.length cc,.slice nB m.names.length nc] 43):=⟨_,rfl⟩
          rw[← hW2] at hbk2 hbr2 ⊢
          clear hW2
          have HN2:=lh (HNS.out.below hbr2)
          have HBR2:=lh (HBR.out.trans (hbr2.mono hz12))
          have cN:W2.cell? ⟨wp.heap.size,4,none⟩=some (.slice nB m.names.length nc):=hbk2.cell 4
          obtain⟨z5,hz5⟩:∃ z5,z5=z4+m.code.length+m.names.length+(m.nm.size:Int) / 100*most:=⟨_,rfl⟩
          have h50:z4≤z5:=by omega
          have h51:z5≤700000000000000:=by omega
          have HZ5:=lh hz5
          rw[← hz5]
          obtain⟨qm,hqm⟩:∃ qm,qm=q:=⟨q,rfl⟩
          subst hqm
          clear hz5 p0 p1 p2 hbk2 hbr2 y0 y1 y2 y3 y4 cM'
          have hend6:∀ z6:Int,z5≤z6→(z6≤most→∀ (i:Nat) (s:ByteArray),i < m.names.length→m.names[i]?=some s→s.size < 200)→(z6≤most→∀ (i:Nat) (m:Mth),i < k2+1→x.ms[i]?=some m→m.few most.toNat):=fun z6 h60 hnm hh i m' hi hm'=>by
           by_cases hik:i < k2
           ·exact HALL.out hz4 i m' hik hm'
           ·obtain rfl:i=k2:=by omega
            have hm2:=HMM.out
            rw[hm'] at hm2
            cases hm2
            have e5:=HZ5.out
            obtain⟨_,p2,_⟩:=mul_facts (s:=(m.nm.size:Int)) (most:=most) (by omega) (by omega) m0 m1
            have:=small_of (s:=(m.nm.size:Int)) (z:=0) (by omega) m0 (by omega) (by omega)
            refine⟨by omega,by omega,by omega,fun s hs=>?_⟩
            obtain⟨j,hj⟩:=List.mem_iff_getElem?.1 hs
            exact hnm hh j s (List.getElem?_eq_some_iff.1 hj).1 hj
          have HEND6:=lh hend6
          clear hend6
          focus
           go_wp2_with fail
           go_loopg [5,11] (m.names.length) (fun q v i wr=>∃ (k3:Nat) (z6:Int),i=.int .i64 k3∧k3+q=m.names.length∧v=.int .i64 z6∧z5≤z6∧z6≤1000000000000000∧(z6≤most→∀ (i:Nat) (s:ByteArray),i < k3→m.names[i]?=some s→s.size < 200)∧wr=W2)
           case atStart=>exact⟨0,z5,rfl,by omega,rfl,Int.le_refl _,by omega,fun _ i s hi=>by omega,rfl⟩
           case round =>
            obtain⟨k3,z6,rfl,hk3,rfl,h60,h61,hall3,rfl⟩:=hrel
            have HALL3:=lh hall3
            clear hall3
            by_cases hlt3:k3 < m.names.length
            ·by_cases hz6:z6≤most
             ·cases gk with
              | zero=>omega
              | succ q =>
               obtain⟨fb,fo,hFA,hfb,hfcell⟩:=HN2.out.get hlt3
               subst hFA
               obtain⟨s,hs⟩:∃ s,m.names[k3]?=some s:=⟨_,List.getElem?_eq_getElem hlt3⟩
               have cs:wr.cell? ⟨fb,fo+k3,none⟩=some (.string s):=hfcell k3 _ (by simp[txtCells,hs])
               have hs1:=HMK.out.names s (List.mem_of_getElem? hs)
               obtain⟨p0,p2,p1⟩:=mul_facts (s:=(s.size:Int)) (most:=most) (by omega) (by omega) m0 m1
               have hkf:k3 < nc:=by omega
               have HS:=lh hs
               clear hs hfcell
               go_wp2_with fail
               go_roundg q
               case measure=>omega
               case rel =>
                refine⟨k3+1,z6+(s.size:Int) / 100*most,by go_num,by omega,rfl,by omega,by omega,fun hh i s' hi hs'=>?_,rfl⟩
                by_cases hik:i < k3
                ·exact HALL3.out hz6 i s' hik hs'
                ·obtain rfl:i=k3:=by omega
                 have hs2:=HS.out
                 rw[hs'] at hs2
                 cases hs2
                 have:=small_of (s:=(s.size:Int)) (z:=z6) (by omega) m0 (by omega) hh
                 omega
             ·go_wp2_with fail
              go_roundg qm
              case measure=>omega
              case rel=>exact⟨k2+1,z6,by go_num,by omega,rfl,by omega,h61,HEND6.out z6 h60 (fun hh=>by omega),HBR2.out⟩
            ·obtain rfl:k3=m.names.length:=by omega
             go_wp2_with fail
             go_roundg qm
             case measure=>omega
             case rel=>exact⟨k2+1,z6,by go_num,by omega,rfl,by omega,h61,HEND6.out z6 h60 HALL3.out,HBR2.out⟩
        ·go_wp2_with fail
         go_roundg qo
         case measure=>omega
         case rel=>exact⟨k+1,z4,by go_num,by omega,rfl,⟨by omega,h41,HEND4.out z4 h40 (fun hh=>by omega)⟩,by omega,HBW1.out.trans (HBR.out.mono HBW1.out.size)⟩
       ·obtain rfl:k2=x.ms.length:=by omega
        go_wp2_with fail
        go_roundg qo
        case measure=>omega
        case rel=>exact⟨k+1,z4,by go_num,by omega,rfl,⟨by omega,h41,HEND4.out z4 h40 HALL.out⟩,by omega,HBW1.out.trans (HBR.out.mono HBW1.out.size)⟩
  ·by_cases hkn:k < n
   ·have hzm:¬ z≤most:=fun h=>hk ⟨hkn,h⟩
    have hd:decide (z≤most)=false:=decide_eq_false hzm
    clear hk
    go_wp2_with fail
    go_ret
    exact⟨⟨false,rfl,fun h=>by cases h⟩,HB0.out.trans (HB.out.mono HB0.out.size)⟩
   ·obtain rfl:k=n:=by omega
    clear hk
    cases hd:decide (z≤most) with
    | false =>
     go_wp2_with fail
     go_ret
     exact⟨⟨false,rfl,fun h=>by cases h⟩,HB0.out.trans (HB.out.mono HB0.out.size)⟩
    | true =>
     go_wp2_with fail
     go_ret
     refine⟨⟨true,rfl,fun _=>?_⟩,HB0.out.trans (HB.out.mono HB0.out.size)⟩
     have hzm:=of_decide_eq_true hd
     have hl:=HC.out.1
     refine⟨by omega,fun x hx=>?_⟩
     obtain⟨i,hi⟩:=List.mem_iff_getElem?.1 hx
     exact HF.out hzm i x (by have:=(List.getElem?_eq_some_iff.1 hi).1;omega) hi
end
end
section
open Go.RowKit Go.Sort
def headB (nm:ByteArray) (p l:Int):ByteArray:=⟨(Lib.join ([⟨#[109,101,116,104,111,100]⟩,nm,dec p,dec l].map (·.data.toList)) spB.data.toList).toArray⟩
def lineB (ns:List ByteArray) (i:Nat) (x:Ins):ByteArray :=
 dec i++spB++(if iV x then (if hasText x.1.toNat then opName x.1.toNat++spB++textB ns x.1.toNat x.2.1 x.2.2 else opName x.1.toNat) else ⟨#[63]⟩)
def linesTo (ns:List ByteArray) (c:List Ins) (k:Nat):List ByteArray:=(List.range k).map fun i=>lineB ns i (c.getD i (0,0,0))
def fmtL (nm:ByteArray) (p l:Int) (c:List Ins) (ns:List ByteArray) (k:Nat):List ByteArray:=headB nm p l::linesTo ns c k
theorem fmtL_succ (nm:ByteArray) (p l:Int) (c:List Ins) (ns:List ByteArray) (k:Nat) (x:Ins) (hx:c[k]?=some x):fmtL nm p l c ns (k+1)=fmtL nm p l c ns k++[lineB ns k x]:=by
 simp[fmtL,linesTo,List.range_succ,hx]
theorem fmtL_length (nm:ByteArray) (p l:Int) (c:List Ins) (ns:List ByteArray) (k:Nat):(fmtL nm p l c ns k).length=k+1:=by simp[fmtL,linesTo]
def FmtPost (w:World) (ls:List ByteArray) (e:Ending) (w':World):Prop :=
 ∃ g cap,e=.returned (.slice (some ⟨g,0,none⟩) ls.length cap)∧ls.length≤cap∧Sl w' 1 (some ⟨g,0,none⟩) ls.length (strs ls)∧Below w.heap.size w w'∧w.heap.size≤g
theorem own_slF {w:World} {base:Nat} {e:TypeId} {n:Nat} {v:Value} {xs:List Value} (h:w.ownsRow base e 1 v n xs) (hn:0 < n):∃ g cap,v=.slice (some ⟨g,0,none⟩) n cap∧n≤cap∧base≤g∧Sl w 1 (some ⟨g,0,none⟩) n xs:=by
 have hlt:=h.lt
 have hcl:=fun g=>h.cells (g:=g)
 obtain⟨h1,h2 | ⟨g,cap,cur,rfl,h3,_,h5,_⟩⟩:=h
 ·omega
 ·exact⟨g,cap,rfl,h5,h3,h1,.inr ⟨g,0,rfl,(hlt g rfl).2,fun j x hx=>by
   have:=hcl g rfl j x hx
   unfold Addr.add at this
   split at this
   ·next h0=>subst h0;exact this
   ·exact this⟩⟩
theorem own_below {w w':World} {base:Nat} {e:TypeId} {size n:Nat} {v:Value} {xs:List Value} (h:w.ownsRow base e size v n xs) (hb:Below w.heap.size w w'):w'.ownsRow base e size v n xs:=by
 obtain⟨h1,h2 | ⟨g,cap,cur,rfl,h3,h4,h5⟩⟩:=h
 ·exact⟨h1,.inl h2⟩
 ·exact⟨h1,.inr ⟨g,cap,cur,rfl,h3,(hb.block g (Array.getElem?_eq_some_iff.1 h4).1).trans h4,h5⟩⟩
theorem cells_strs (w:World) (t:TypeId) (l:List ByteArray) (cs:Array Value) (h:cs=(strs l).toArray):∀ (j:Nat) x,l[j]?=some x→(w.alloc (.cells cs t)).cell? ⟨w.heap.size,0+j,none⟩=some (.string x):=by
 subst h
 intro j x hx
 simp[strs,hx]
theorem head_len {nm:ByteArray} {p l:Int} (hnm:nm.size≤1000000) (p0:-9223372036854775808≤p) (p1:p≤9223372036854775807) (l0:-9223372036854775808≤l) (l1:l≤9223372036854775807) :
  (Lib.join ([⟨#[109,101,116,104,111,100]⟩,nm,dec p,dec l].map (·.data.toList)) spB.data.toList).length≤140737488355328:=by
 have h1:=dec_size p p0 p1
 have h2:=dec_size l l0 l1
 have e:∀ b:ByteArray,b.data.toList.length=b.size:=fun b=>rfl
 simp only[Lib.join,List.intercalate,List.map_cons,List.map_nil,List.intersperse,List.flatten_cons,List.flatten_nil,List.length_append,List.append_nil,e]
 have e2:spB.size=1:=rfl
 have e1:[(109:UInt8),101,116,104,111,100].length=6:=rfl
 rw[e1,e2]
 omega
theorem Join_head {nm:ByteArray} {p l:Int} (w2:World) (hnm:nm.size≤1000000) (p0:-9223372036854775808≤p) (p1:p≤9223372036854775807) (l0:-9223372036854775808≤l) (l1:l≤9223372036854775807) :
  Calls Tryd.prog 44 #[.slice (some ⟨w2.heap.size,0,none⟩) 4 4,.string ⟨#[32]⟩] (w2.alloc (.cells #[.string ⟨#[109,101,116,104,111,100]⟩,.string nm,.string (dec p),.string (dec l)] 9)) fun e w'=>e=.returned (.string (headB nm p l))∧Below w2.heap.size w2 w' :=
 (Tryd.strings_Join w2.heap.size 0 4 [⟨#[109,101,116,104,111,100]⟩,nm,dec p,dec l] spB _ (cells_strs w2 9 _ _ rfl) (by simp) (by simp) (by simp) (head_len hnm p0 p1 l0 l1)).mono fun e w' ⟨he,hb⟩=>⟨he,below_box hb⟩
theorem i_str:(Tryd.prog.info? 9).map (fun i=>(i.zero,i.size,i.bytes))=some (some (.string ⟨#[]⟩),1,16):=by kernel_rfl
theorem i64_of_wf {z:Int} (h:(Lit.int .i64 z).wf=true):-9223372036854775808≤z∧z≤9223372036854775807:=by
 simp only[Lit.wf,Bool.and_eq_true,decide_eq_true_eq] at h
 exact h
theorem nameB_size {ns:List ByteArray} (hsz:∀ x∈ns,x.size≤1000000) (a:Int):(nameB ns a).size≤1000000:=by
 unfold nameB
 split
 ·rw[List.getD_eq_getElem?_getD]
  cases hx:ns[a.toNat]? with
  | none=>simp[ByteArray.size]
  | some x=>exact hsz x (List.mem_of_getElem? hx)
 ·simp[ByteArray.size]
theorem operB_size (n:Nat):(operB n).size≤2:=by
 by_cases h:n < 11
 ·have hall:((List.range 11).all fun i=>decide ((operB i).size≤2))=true:=by decide +kernel
  simpa using List.all_eq_true.1 hall n (by simpa using h)
 ·have:operTexts[n]?=none:=List.getElem?_eq_none (by simp[operTexts];omega)
  simp[operB,this,ByteArray.size]
theorem opName_size (n:Nat):(opName n).size≤10:=by
 by_cases h:n < 26
 ·have hall:((List.range 26).all fun i=>decide ((opName i).size≤10))=true:=by decide +kernel
  simpa using List.all_eq_true.1 hall n (by simpa using h)
 ·have:opRows[n]?=none:=List.getElem?_eq_none (by simp[opRows];omega)
  simp[opName,opRow,this,ByteArray.size]
theorem textB_size {ns:List ByteArray} (hsz:∀ x∈ns,x.size≤1000000) (n:Nat) {a b:Int} (a0:-9223372036854775808≤a) (a1:a≤9223372036854775807) (b0:-9223372036854775808≤b) (b1:b≤9223372036854775807):(textB ns n a b).size≤2000000:=by
 have h1:=dec_size a a0 a1
 have h2:=dec_size b b0 b1
 have h3:=nameB_size hsz a
 have h4:=operB_size a.toNat
 have h5:spB.size=1:=rfl
 unfold textB
 split
 ·simp only[ByteArray.size_append,h5];omega
 ·split
  ·omega
  ·split
   ·omega
   ·split
    ·simp only[ByteArray.size_append,h5];omega
    ·omega
theorem Valid_yes' {n a b:Int} (h:validB n a b=true) (w:World) :
  Calls Tryd.prog 17 #[.agg #[.int .i64 n,.int .i64 a,.int .i64 b]] w fun e w'=>e=.returned (.bool true)∧Below w.heap.size w w':=by
 have:=Valid_any n a b w
 rwa [h] at this
theorem Valid_no {n a b:Int} (h:validB n a b=false) (w:World) :
  Calls Tryd.prog 17 #[.agg #[.int .i64 n,.int .i64 a,.int .i64 b]] w fun e w'=>e=.returned (.bool false)∧Below w.heap.size w w':=by
 have:=Valid_any n a b w
 rwa [h] at this
theorem eql_nil (w:World):(binOp .eql 68 .nilFunc .nilFunc).run Tryd.prog w=.ok (.bool true) w:=by kernel_rfl
theorem eql_func (K:Nat) (w:World):(binOp .eql 68 (.func (.func K) #[] #[]) .nilFunc).run Tryd.prog w=.ok (.bool false) w:=by kernel_rfl
theorem opers_below (w:World):Calls Tryd.prog 43 #[] w fun e w'=>e=.returned (.agg opCells)∧Below w.heap.size w w' :=
 (operations_any w).mono fun e w' ⟨he,o,hw⟩=>⟨he,hw ▸ (Below.refl _ _).alloc (Nat.le_refl _) _⟩
section
variable {w:World} {nm:ByteArray} {p l:Int} {A B:Option Addr} {len cap m d:Nat}
set_option maxHeartbeats 4000000 in
theorem Format_any (c:List Ins) (ns:List ByteArray) (hc:c.length=len) (hl:len≤10000) (hcap:len≤cap) (hw:∀ x∈c,(Lit.int .i64 x.1).wf=true∧(Lit.int .i64 x.2.1).wf=true∧(Lit.int .i64 x.2.2).wf=true) (hcode:Sl w 3 A len (codeCells c))
  (hm:ns.length=m) (hd:m≤d) (hs:Sl w 1 B m (strs ns)) (hsz:∀ x∈ns,x.size≤1000000) (hnm:nm.size≤1000000) (p0:-9223372036854775808≤p) (p1:p≤9223372036854775807) (l0:-9223372036854775808≤l) (l1:l≤9223372036854775807) (ht:Tabs w) :
  Calls Tryd.prog 16 #[.agg #[.string nm,.int .i64 p,.int .i64 l,.slice A len cap,.slice B m d]] w (FmtPost w (fmtL nm p l c ns len)):=by
 have hb0:Below w.heap.size w (w.alloc (.cells #[.string nm,.int .i64 p,.int .i64 l,.slice A len cap,.slice B m d] 43)):=(Below.refl _ _).alloc (Nat.le_refl _) _
 have hS0:Below (w.alloc (.cells #[.string nm,.int .i64 p,.int .i64 l,.slice A len cap,.slice B m d] 43)).heap.size (w.alloc (.cells #[.string nm,.int .i64 p,.int .i64 l,.slice A len cap,.slice B m d] 43)) (w.alloc (.cells #[.string nm,.int .i64 p,.int .i64 l,.slice A len cap,.slice B m d] 43))∧Tabs (w.alloc (.cells #[.string nm,.int .i64 p,.int .i64 l,.slice A len cap,.slice B m d] 43))∧(w.alloc (.cells #[.string nm,.int .i64 p,.int .i64 l,.slice A len cap,.slice B m d] 43)).cell? ⟨w.heap.size,0,none⟩=some (.string nm)∧(w.alloc (.cells #[.string nm,.int .i64 p,.int .i64 l,.slice A len cap,.slice B m d] 43)).cell? ⟨w.heap.size,1,none⟩=some (.int .i64 p)∧(w.alloc (.cells #[.string nm,.int .i64 p,.int .i64 l,.slice A len cap,.slice B m d] 43)).cell? ⟨w.heap.size,2,none⟩=some (.int .i64 l) :=
  ⟨Below.refl _ _,ht.below hb0,by simp,by simp,by simp⟩
 have HS0:=lh hS0
 have HB0:=lh hb0
 have HCODE:=lh (hcode.below hb0)
 have HNS:=lh (hs.below hb0)
 have HBK:=lh (Bk.new w 43 #[.string nm,.int .i64 p,.int .i64 l,.slice A len cap,.slice B m d])
 have HT:=lh ht
 have hNlt:w.heap.size < (w.alloc (.cells #[.string nm,.int .i64 p,.int .i64 l,.slice A len cap,.slice B m d] 43)).heap.size:=by simp
 have HC:=lh hc
 have HM:=lh hm
 clear hb0 hS0 hcode hs ht hc hm
 go_enter Tryd.func16,Tryd.ntmps16
 go_upto_region 1 with fail
 obtain⟨W,hW⟩:∃ W,W=w.alloc (.cells #[.string nm,.int .i64 p,.int .i64 l,.slice A len cap,.slice B m d] 43):=⟨_,rfl⟩
 rw[← hW] at HS0 HB0 HCODE HNS HBK hNlt ⊢
 clear hW
 obtain⟨s1,s2,s3,s4,s5⟩:=HS0.out
 go_cut [3] from 7 to 17 (fun s3 wx=>∃ g:Nat,s3=.slice (some ⟨g,0,none⟩) 1 1∧W.heap.size≤g∧Bk wx g 9 #[.string (headB nm p l)]∧Below W.heap.size W wx)
 case first =>
  have sd:=s2.below s1.drew
  clear HS0 s1
  go_region_with (first
   | (go_at_call_of 45 (Value.int .i64 p);refine(Itoa_any p p0 p1 _ sd).mono ?_;rintro e w1 ⟨rfl,hb1⟩;have ht1:Tabs w1:=sd.below hb1;have c0:=((bcell hb1).1 _ 0 hNlt).trans s3;have c2:=((bcell hb1).1 _ 2 hNlt).trans s5;have z1:W.heap.size≤w1.heap.size:=hb1.size)
   | (go_at_call_of 45 (Value.int .i64 l);refine(Itoa_any l l0 l1 _ ht1).mono ?_;rintro e w2 ⟨rfl,hb2⟩;have c0':=((bcell hb2).1 _ 0 (Nat.lt_of_lt_of_le hNlt z1)).trans c0;have z2:W.heap.size≤w2.heap.size:=Nat.le_trans z1 hb2.size)
   | (go_at_call 44;refine(Join_head w2 hnm p0 p1 l0 l1).mono ?_;rintro e w3 ⟨rfl,hb3⟩;have z3:W.heap.size≤w3.heap.size:=Nat.le_trans z2 hb3.size))
  all_goals
   go_wp2_with fail
   go_meet
   refine⟨w3.heap.size,rfl,z3,Bk.new _ _ _,(((Below.refl _ _).drew.trans (hb1.trans (hb2.mono z1))).trans (hb3.mono z2)).alloc z3 _⟩
 case rest =>
  obtain⟨g,rfl,hg,hbk,hbel⟩:=hcut
  have hown:wc.ownsRow W.heap.size 9 1 (.slice (some ⟨g,0,none⟩) 1 1) 1 (strs (fmtL nm p l c ns 0)) :=
   ⟨rfl,.inr ⟨g,1,_,rfl,hg,hbk,Nat.le_refl _,by unfold maxLen;omega,rfl,rfl⟩⟩
  have hbkw:Bk wc w.heap.size 43 #[.string nm,.int .i64 p,.int .i64 l,.slice A len cap,.slice B m d]:=HBK.out.below hbel hNlt
  have b3:wc.cell? ⟨w.heap.size,3,none⟩=some (.slice A len cap):=hbkw.cell 3
  have HOWN:=lh hown
  have HBEL:=lh hbel
  clear hown hbel hbk
  clear hbkw
  obtain⟨i9,hi9,hi0,hi1,hi2⟩:=info_parts i_str
  have HI:=lh (And.intro hi9 (And.intro hi0 (And.intro hi1 hi2)))
  clear hi9 hi0 hi1 hi2 s2 s3 s4 s5 HS0
  have sW:Tabs W:=HT.out.below HB0.out
  have HTW:=lh sW
  clear sW
  go_wp2_with fail
  go_loopg [3,21] (len) (fun q v i wr=>∃ k,i=.int .i64 (k:Nat)∧k+q=len∧wr.ownsRow W.heap.size 9 1 v (k+1) (strs (fmtL nm p l c ns k))∧Below W.heap.size W wr)
  case atStart=>exact⟨0,rfl,by omega,HOWN.out,HBEL.out⟩
  case round =>
   obtain⟨k,rfl,hkq,hown,hB⟩:=hrel
   cases gk with
   | zero =>
    obtain rfl:k=len:=hkq
    have HO:=lh hown
    have HB:=lh hB
    clear hown hB
    go_wp2_with fail
    go_ret
    obtain⟨g',cp,hv,h1,h2,h3⟩:=own_slF HO.out (by omega)
    subst hv
    have hln:=fmtL_length nm p l c ns k
    refine⟨g',cp,by rw[hln];rfl,by rw[hln];exact h1,by rw[hln];exact h3,HB0.out.trans (HB.out.mono (Nat.le_of_lt hNlt)),by omega⟩
   | succ q =>
    have hkl:k < len:=by omega
    obtain⟨⟨xo,xa,xb⟩,hx⟩:∃ x,c[k]?=some x:=⟨_,List.getElem?_eq_getElem (by rw[HC.out];exact hkl)⟩
    obtain⟨hx0,hx1,hx2⟩:=codeCells_get c k (xo,xa,xb) hx
    obtain⟨cb,co,rfl,hbl,hcc⟩:=HCODE.out.get hkl
    have x0:wr.cell? ⟨cb,co+k*3,none⟩=some (.int .i64 xo):=(hB.cell (p:=⟨cb,co+k*3,none⟩) hbl).trans (hcc _ _ hx0)
    have x1:wr.cell? ⟨cb,co+k*3+1,none⟩=some (.int .i64 xa):=(hB.cell (p:=⟨cb,co+k*3+1,none⟩) hbl).trans (hcc _ _ hx1)
    have x2:wr.cell? ⟨cb,co+k*3+2,none⟩=some (.int .i64 xb):=(hB.cell (p:=⟨cb,co+k*3+2,none⟩) hbl).trans (hcc _ _ hx2)
    have hzW:=hB.size
    have hTr:Tabs (wr.alloc (.cells #[.int .i64 xo,.int .i64 xa,.int .i64 xb] 37)):=(HTW.out.below hB).below ((Below.refl _ _).alloc (Nat.le_refl _) _)
    have HTR:=lh hTr
    have HB:=lh hB
    have HO:=lh hown
    have HX:=lh hx
    have hkc:k < cap:=by omega
    have hds:=dec_size (k:Int) (by omega) (by omega)
    have hds1:¬ 9223372036854775807 < (dec k).size+1:=by omega
    obtain⟨hwo,hwa,hwb⟩:=hw _ (List.mem_of_getElem? hx)
    have ba:=i64_of_wf hwa
    have bb:=i64_of_wf hwb
    have hts:=textB_size hsz xo.toNat ba.1 ba.2 bb.1 bb.2
    have hos:=opName_size xo.toNat
    have hbm:=HBK.out.below hB hNlt
    have hzN:w.heap.size < wr.heap.size:=by omega
    clear hB hown hx hx0 hx1 hx2 hcc hbl hTr hwo hwa hwb
    go_upto_block 2 with (first | (go_at_call 45;refine(Itoa_any (k:Int) (by omega) (by omega) _ HTR.out).mono ?_;rintro e w1 ⟨rfl,hb1⟩))
    have hnw:wr.heap.size < (wr.alloc (.cells #[.int .i64 xo,.int .i64 xa,.int .i64 xb] 37)).heap.size:=by simp
    have hi1:Bk w1 wr.heap.size 37 #[.int .i64 xo,.int .i64 xa,.int .i64 xb]:=(Bk.new _ _ _).below hb1 hnw
    have hm1:=(hbm.alloc (.cells #[.int .i64 xo,.int .i64 xa,.int .i64 xb] 37)).below hb1 (by omega)
    have ht1:=HTR.out.below hb1
    have hz1:wr.heap.size < w1.heap.size:=Nat.lt_of_lt_of_le hnw hb1.size
    have HB1:=lh ((HB.out.alloc hzW (.cells #[.int .i64 xo,.int .i64 xa,.int .i64 xb] 37)).trans (hb1.mono (by simp;omega)))
    have HNS1:=lh (HNS.out.below HB1.out)
    have HO1:=lh (HO.out.alloc (.cells #[.int .i64 xo,.int .i64 xa,.int .i64 xb] 37))
    have HBB1:=lh hb1
    clear hb1 x0 x1 x2 hbm hnw HTR
    go_cut [6] from 29 to 61 (fun s6 wx=>s6=.string (lineB ns k (xo,xa,xb))∧Below w1.heap.size w1 wx)
    case first =>
     have i0:=hi1.cell 0
     have i1:=hi1.cell 1
     have i2:=hi1.cell 2
     simp only[List.getElem?_toArray,List.getElem?_cons_zero,List.getElem?_cons_succ] at i0 i1 i2
     cases hv:validB xo xa xb with
     | false =>
      have hln:lineB ns k (xo,xa,xb)=dec k++⟨#[32]⟩++⟨#[63]⟩:=by simp[lineB,iV,hv,spB]
      have HLN:=lh hln
      have HV:=lh hv
      have hd2:¬ 9223372036854775807 < (dec k).size+1+1:=by omega
      clear hln hv hds
      go_wp2_with fail
      refine(Valid_no HV.out _).mono ?_
      rintro e w2 ⟨rfl,hb2⟩
      go_wp2
      go_meet
      exact⟨by rw[HLN.out],hb2⟩
     | true =>
      obtain⟨kk,rfl,hkk,_⟩:=validB_some hv
      simp only[Int.toNat_natCast] at hts hos
      have HV:=lh hv
      cases hT:hasText kk with
      | false =>
       have hln:lineB ns k (kk,xa,xb)=dec k++⟨#[32]⟩++opName kk:=by simp[lineB,iV,hv,spB,hT]
       have HLN:=lh hln
       have hix:=fun w=>index_op kk hkk w
       simp only[text_none kk hkk hT] at hix
       have hfx:=field_op7
       have hen:=eql_nil
       have hd2:¬ 9223372036854775807 < (dec k).size+1+(opName kk).size:=by omega
       clear hln hv hds hT
       go_wp2_with fail
       refine(Valid_yes' HV.out _).mono ?_
       rintro e w2 ⟨rfl,hb2⟩
       have hi2:=hi1.below hb2 hz1
       have j0:=cell_regrown (hi2.cell 0)
       have cO:=fun dd os=>Calls.regrown_of (w:=w2) (opers_below (grow (redrawn w2 dd) os))
       have HB2:=lh hb2
       clear hb2 i0 i1 i2
       go_wp2_with fail
       refine wp_region_quiet_below (by kernel_rfl) (by kernel_rfl) ?_
       repeat (quiet_step (first | exact cO _ _))
       refine wpQuiet_nil ?_
       intro w3 hw'
       have hb3:Below w2.heap.size w2 w3:=by obtain⟨pp,rfl⟩:=hw';exact below_regrown _ _ _
       have i0:=(hi2.below hb3 (Nat.lt_of_lt_of_le hz1 HB2.out.size)).cell 0
       simp only[List.getElem?_toArray,List.getElem?_cons_zero,List.getElem?_cons_succ] at i0
       have HB3:=lh (HB2.out.trans (hb3.mono HB2.out.size))
       clear hw' hb3 cO j0 hix
       go_wp2_with fail
       refine(Name_in kk hkk _).mono ?_
       rintro e w4 ⟨rfl,hb4⟩
       go_wp2
       go_meet
       exact⟨by rw[HLN.out],HB3.out.trans (hb4.mono HB3.out.size)⟩
      | true =>
       have hln:lineB ns k (kk,xa,xb)=dec k++⟨#[32]⟩++(opName kk++⟨#[32]⟩++textB ns kk xa xb):=by simp[lineB,iV,hv,spB,hT]
       have HLN:=lh hln
       obtain⟨K,hK,eK,cK⟩:=text_some (v0:=.string nm) (v1:=.int .i64 p) (v2:=.int .i64 l) (v3:=.slice (some ⟨cb,co,none⟩) len cap) (B:=B) (d:=d) kk hkk hT ba.1 ba.2 bb.1 bb.2 hv HM.out hd hsz
       have hix:=fun w=>index_op kk hkk w
       simp only[hK] at hix
       have hfx:=field_op7
       have hen:=eql_func K
       have hd2:¬ 9223372036854775807 < (opName kk).size+1:=by omega
       have hd3:¬ 9223372036854775807 < (opName kk).size+1+(textB ns kk xa xb).size:=by omega
       have hd4:¬ 9223372036854775807 < (dec k).size+1+((opName kk).size+1+(textB ns kk xa xb).size):=by omega
       clear hln hv hds hT hK
       go_wp2_with fail
       refine(Valid_yes' HV.out _).mono ?_
       rintro e w2 ⟨rfl,hb2⟩
       have hi2:=hi1.below hb2 hz1
       have j0:=cell_regrown (hi2.cell 0)
       have cO:=fun dd os=>Calls.regrown_of (w:=w2) (opers_below (grow (redrawn w2 dd) os))
       have HB2:=lh hb2
       clear hb2 i0 i1 i2
       go_wp2_with fail
       refine wp_region_quiet_below (by kernel_rfl) (by kernel_rfl) ?_
       repeat (quiet_step (first | exact cO _ _))
       refine wpQuiet_nil ?_
       intro w3 hw'
       have hb3:Below w2.heap.size w2 w3:=by obtain⟨pp,rfl⟩:=hw';exact below_regrown _ _ _
       have hz2:=Nat.lt_of_lt_of_le hz1 HB2.out.size
       have HB3:=lh (HB2.out.trans (hb3.mono HB2.out.size))
       have hi3:=hi2.below hb3 hz2
       have hm3:=hm1.below HB3.out (by omega)
       have ht3:=ht1.below HB3.out
       have hs3:=HNS1.out.below HB3.out
       clear hw' hb3 cO j0
       have j0:=cell_regrown (hi3.cell 0)
       have j1:=cell_regrown (hi3.cell 1)
       have j2:=cell_regrown (hi3.cell 2)
       have k0:=cell_regrown (hm3.cell 0)
       have k1:=cell_regrown (hm3.cell 1)
       have k2:=cell_regrown (hm3.cell 2)
       have k3:=cell_regrown (hm3.cell 3)
       have k4:=cell_regrown (hm3.cell 4)
       have cO:=fun dd os=>Calls.regrown_of (w:=w3) (opers_below (grow (redrawn w3 dd) os))
       have cN:=fun dd os=>Calls.regrown_of (w:=w3) (Name_in kk hkk (grow (redrawn w3 dd) os))
       have cT:=fun dd os=>Calls.regrown_of (w:=w3) (cK (grow (redrawn w3 dd) os) (ht3.below (below_regrown _ _ _)) (hs3.below (below_regrown _ _ _)))
       clear cK ht3 hs3 hm3 hi3 hi2
       go_wp2_with fail
       refine wp_region_quiet_below (by kernel_rfl) (by kernel_rfl) ?_
       repeat (quiet_step (first | exact cO _ _ | exact cN _ _ | exact cT _ _))
       refine wpQuiet_nil ?_
       intro w4 hw'
       have hb4:Below w3.heap.size w3 w4:=by obtain⟨pp,rfl⟩:=hw';exact below_regrown _ _ _
       have HB4:=lh (HB3.out.trans (hb4.mono HB3.out.size))
       clear hw' hb4 cO cN cT j0 j1 j2 k0 k1 k2 k3 k4
       go_wp2
       go_meet
       exact⟨by rw[HLN.out],HB4.out⟩
    case rest =>
     obtain⟨rfl,hb2⟩:=hcut
     have hbx:=HB1.out.trans (hb2.mono (by have:=HB1.out.size;omega))
     have hszx:=hbx.size
     have hown:=own_below (own_below HO1.out HBB1.out) hb2
     have hsucc:strs (fmtL nm p l c ns k)++[Value.string (lineB ns k (xo,xa,xb))]=strs (fmtL nm p l c ns (k+1)):=by rw[fmtL_succ nm p l c ns k _ HX.out];simp[strs]
     have HSU:=lh hsucc
     have hlt:=fun kk hk=>(hown.lt kk hk).1
     have HLT:=lh hlt
     have HBX:=lh hbx
     have HOX:=lh hown
     clear hbx hown hb2 hi1 hm1 ht1 hsucc hlt
     go_wp2_with (first | (at_builtin;refine wpList_append_own _ rfl (.tmp 62) (.tmp 64) 40 rfl W.heap.size 9 i9 (.string ⟨#[]⟩) 1 16 Tryd.underlying40 HI.out.1 HI.out.2.1 HI.out.2.2.1 HI.out.2.2.2 rfl (by decide) _ _ _ rfl (HOX.out.alloc _) ⟨wc.heap.size,0,none⟩ 1 1 [.string (lineB ns k (xo,xa,xb))] rfl rfl (cell_one_new _ _ _) (by simp[Value.oneCell']) (by unfold maxLen;omega) (by omega) (by simp;omega) ?_;intro v' w4 hown4 hg4 _;rw[HSU.out] at hown4))
     have HO4:=lh hown4
     have HG4:=lh hg4
     clear hown4 hg4
     go_wp2_with fail
     go_roundg q
     case measure=>omega
     case rel=>exact⟨k+1,by go_num,by omega,HO4.out,(HBX.out.alloc hszx _).grown HG4.out (by simp;omega) HLT.out⟩
end
end
end Go.Proofs.YtmbnlccafcfbeaaDoor
