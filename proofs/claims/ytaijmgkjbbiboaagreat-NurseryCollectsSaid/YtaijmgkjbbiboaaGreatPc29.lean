/- Parts of the proof: RCross. -/
import Derived.BigQuiet
import Derived.Deep.DeepCutAuto
import Derived.Test.YtaijmgkjbbiboaaGreatPcA
import Derived.Test.YtaijmgkjbbiboaaGreatPc17
import Derived.Test.YtaijmgkjbbiboaaGreatPc18
import Derived.Test.YtaijmgkjbbiboaaGreatPc19
import Derived.Test.YtaijmgkjbbiboaaGreatPc20
set_option linter.unusedVariables false
set_option linter.unusedSimpArgs false
set_option linter.unusedSectionVars false
set_option maxRecDepth 100000
namespace Go.Proofs.YtaijmgkjbbiboaaGreat
section
open Go.RowKit Go.Sort
theorem i_int2:(Tryz.prog.info? 3).map (fun i=>(i.zero,i.size,i.bytes))=some (some (.int .i64 0),1,8):=by kernel_rfl
theorem own_mono {w:World} {b b' size n:Nat} {e:TypeId} {v:Value} {xs:List Value} (h:w.ownsRow b e size v n xs) (hb:b'≤b):w.ownsRow b' e size v n xs:=by
 obtain⟨h1,h2⟩:=h
 refine⟨h1,h2.imp id ?_⟩
 rintro⟨g,cap,cur,e,hg,hr⟩
 exact⟨g,cap,cur,e,Nat.le_trans hb hg,hr⟩
section
variable {w:World} {s:Spc} {A:Option Addr} {c:Nat}
theorem Spc.size_test {s:Spc} {i:Nat} {x v:Int} (h1:s.ws[i]?=some x) (h2:s.ws[i+1]?=some v):s.size i=match dH x with
  | some h=>if dI v≠Id.zero∧i+wH h≤s.ws.length then (wH h).toNat else 0
  | none=>0:=by
 unfold Spc.size
 rw[h1,h2]
 rfl
theorem Spc.size_out {s:Spc} {i:Nat} (h:s.ws.length≤i+1):s.size i=0:=by
 unfold Spc.size
 rw[List.getElem?_eq_none (l:=s.ws) (i:=i+1) (by omega)]
 cases s.ws[i]? <;> rfl
def WalkAt (s:Spc) (pre:List Nat) (i:Nat):Prop:=s.walk=(pre++(s.walkFrom i).1,(s.walkFrom i).2)
theorem WalkAt.stop {s:Spc} {pre:List Nat} {i:Nat} (h:WalkAt s pre i) (h0:s.size i=0):s.objs=pre.map (fun(j:Nat)=>s.base+(j:Int))∧s.wend=s.base+i:=by
 unfold WalkAt at h
 rw[s.walkFrom_zero h0,List.append_nil] at h
 unfold Spc.objs Spc.wend
 rw[h]
 exact⟨rfl,rfl⟩
theorem WalkAt.next {s:Spc} {pre:List Nat} {i:Nat} (h:WalkAt s pre i) (h0:s.size i≠0):WalkAt s (pre++[i]) (i+s.size i):=by
 unfold WalkAt at h ⊢
 rw[s.walkFrom_pos h0] at h
 rw[h,List.append_assoc]
 rfl
set_option maxHeartbeats 4000000 in
theorem RWalk_any (h:RS w s A c):Calls Tryz.prog 14 #[rsV s A c] w fun e W'=>∃ v,e=.returned (.tuple #[v,.int .i64 s.wend])∧W'.ownsRow w.heap.size 3 1 v s.objs.length (ints s.objs)∧Below w.heap.size w W':=by
 obtain⟨i9,hi9,hi0,hi1,hi2⟩:=info_parts i_int2
 have HI:=lh (And.intro hi9 (And.intro hi0 (And.intro hi1 hi2)))
 clear hi9 hi0 hi1 hi2
 have hb0:=boxS w s A c
 have hq0:Bk (w.alloc (.cells #[.int .i64 s.base,.int .i64 s.limit,.slice A s.ws.length c] 33)) w.heap.size 33 #[.int .i64 s.base,.int .i64 s.limit,.slice A s.ws.length c]:=Bk.here _ _ _ rfl
 have HS:=lh ((h.sl.below hb0).below ((Below.refl _ _).alloc (Nat.le_refl _) (.cells #[] 3)))
 have hl1:=h.lim
 have hl2:=h.l0
 have hl0:=h.b0
 have hcap:=h.cap
 have HU:=lh h.u
 have HLT:=lh h.lt
 have HB1:Hid (Below w.heap.size w ((w.alloc (.cells #[.int .i64 s.base,.int .i64 s.limit,.slice A s.ws.length c] 33)).alloc (.cells #[] 3))):=lh (hb0.alloc (by simp) _)
 have HQ1:=lh (hq0.alloc (.cells #[] 3))
 have HO1:Hid (World.ownsRow ((w.alloc (.cells #[.int .i64 s.base,.int .i64 s.limit,.slice A s.ws.length c] 33)).alloc (.cells #[] 3)) (w.heap.size+1) 3 1 (.slice (some ⟨w.heap.size+1,0,none⟩) 0 0) 0 []):=lh (ownEmpty 1 (Bk.here _ _ _ (by simp)) (Nat.le_refl _))
 have HZ1:Hid (w.heap.size+1≤((w.alloc (.cells #[.int .i64 s.base,.int .i64 s.limit,.slice A s.ws.length c] 33)).alloc (.cells #[] 3)).heap.size):=lh (by simp)
 unfold rsV
 clear h hb0 hq0
 go_enter Tryz.func14,Tryz.ntmps14
 go_wp2_with fail
 generalize (w.alloc (.cells #[.int .i64 s.base,.int .i64 s.limit,.slice A s.ws.length c] 33)).alloc (.cells #[] 3)=w1 at *
 go_loopw [4,5] (fun v i_ wr=>∃ (i:Nat) (pre:List Nat),i_=.int .i64 (i:Int)∧i≤s.ws.length∧pre.length≤i∧Hid (WalkAt s pre i)∧Hid (wr.ownsRow (w.heap.size+1) 3 1 v pre.length (ints (pre.map fun(j:Nat)=>s.base+(j:Int))))∧Hid (Below (w.heap.size+1) w1 wr)) (fun _ i_ _=>s.ws.length - (intOf i_).toNat)
 case atStart=>exact⟨0,[],rfl,Nat.zero_le _,Nat.le_refl _,lh rfl,HO1,lh (Below.refl _ _)⟩
 case round =>
  obtain⟨i,pre,rfl,hi,hpre,HW,HO,HB⟩:=hrel
  have HQ:=lh (HQ1.out.below HB.out (Nat.lt_succ_self _))
  have HBw:=lh (HB1.out.trans (HB.out.mono (Nat.le_succ _)))
  have HSz:=lh (Nat.le_trans HZ1.out HB.out.size)
  obtain⟨q0,q1,q2⟩:=HQ.out.c3
  by_cases hlt:i+1 < s.ws.length
  ·obtain⟨b,o,hA,hbl,hcell⟩:=HS.out.get (k:=i) (by omega)
   subst hA
   have hx:s.ws[i]?=some s.ws[i]:=List.getElem?_eq_getElem (by omega)
   have hv:s.ws[i+1]?=some s.ws[i+1]:=List.getElem?_eq_getElem hlt
   have hblw:b < w.heap.size:=HLT.out b o rfl
   have e1:wr.cell? ⟨b,o+i,none⟩=some (.int .u64 s.ws[i]):=(HB.out.cell (p:=⟨b,o+i,none⟩) (by show b < _;omega)).trans (hcell i _ (wds_get hx))
   have e2:wr.cell? ⟨b,o+(i+1),none⟩=some (.int .u64 s.ws[i+1]):=(HB.out.cell (p:=⟨b,o+(i+1),none⟩) (by show b < _;omega)).trans (hcell (i+1) _ (wds_get hv))
   have hxu:=HU.out _ (List.getElem_mem (show i < s.ws.length by omega))
   have hvu:=HU.out _ (List.getElem_mem hlt)
   generalize s.ws[i]=x at *
   generalize s.ws[i+1]=v at *
   have hst:=Spc.size_test hx hv
   have hlI:(i:Int)+1 < (s.ws.length:Int):=by omega
   have hic:i < c:=by omega
   have hic2:i+1 < c:=by omega
   have HE2:=lh e2
   have HVU:=lh hvu
   have HV:=lh hv
   have HCELL:=lh hcell
   cases hd:dH x with
   | none =>
    rw[hd] at hst
    have HZ:Hid (s.size i=0):=lh hst
    have cD:=fun w=>RDecode_none hxu hd w
    have cW:=fun w=>RWords_of Hdr.zero w
    clear hst hd hxu hvu hx hv e2 hcell
    go_wp2_with fail
    refine(cD _).mono ?_
    rintro e w2 ⟨rfl,hb2⟩
    have HB2:=lh (HB.out.trans (hb2.mono HSz.out))
    have HQ2:=HQ.out.below hb2 HQ.out.lt
    have HO2:=lh (own_local HO.out fun k hk=>hb2.block k (HO.out.lt k hk).2)
    have hne2:w.heap.size≠w2.heap.size:=Nat.ne_of_lt HQ2.lt
    clear q0 q1 q2
    obtain⟨q0,q1,q2⟩:=HQ2.c3
    have HQ2:=lh HQ2
    have HSz2:=lh (Nat.le_trans HSz.out hb2.size)
    clear hb2 cD
    go_upto_region 5 with fail
    have hb3:=(Below.refl _ w2).alloc (Nat.le_refl _) (.cells #[.int .i64 0,.int .i64 0,.int .i64 0] 58)
    have HB3:=lh (HB2.out.trans (hb3.mono HSz2.out))
    have HQ3:=HQ2.out.below hb3 HQ2.out.lt
    have HO3:=lh (own_local HO2.out fun k hk=>hb3.block k (HO2.out.lt k hk).2)
    have HT3:Bk (w2.alloc (.cells #[.int .i64 0,.int .i64 0,.int .i64 0] 58)) w2.heap.size 58 #[.int .i64 0,.int .i64 0,.int .i64 0]:=Bk.here _ _ _ rfl
    have HSz3:=lh (Nat.le_trans HSz2.out hb3.size)
    generalize w2.alloc (.cells #[.int .i64 0,.int .i64 0,.int .i64 0] 58)=w3 at *
    generalize w2.heap.size=gt at HT3 ⊢
    clear q0 q1 q2 hne2 hb3
    obtain⟨q0,q1,q2⟩:=HQ3.c3
    obtain⟨t0,t1,t2⟩:=HT3.c3
    have HQ3:=lh HQ3
    go_wp2_with fail
    refine(cW _).mono ?_
    rintro e w4 ⟨rfl,hb4⟩
    have HB4:=lh (HB3.out.trans (hb4.mono HSz3.out))
    have HQ4:=HQ3.out.below hb4 HQ3.out.lt
    have HO4:=lh (own_local HO3.out fun k hk=>hb4.block k (HO3.out.lt k hk).2)
    have HSz4:=lh (Nat.le_trans HSz3.out hb4.size)
    clear q0 q1 q2 t0 t1 t2 hb4 cW
    obtain⟨q0,q1,q2⟩:=HQ4.c3
    have HQ4:=lh HQ4
    have HBw4:=lh (HB1.out.trans (HB4.out.mono (Nat.le_succ _)))
    go_wp2_with fail
    go_quiet (fail)
    go_wp2_with fail
    go_ret2
    obtain⟨ho,he⟩:=HW.out.stop HZ.out
    have hx:=own_mono HO4.out (Nat.le_succ _)
    rw[← ho] at hx
    refine⟨_,by rw[he];rfl,?_,below_drewN HBw4.out _⟩
    have hl:pre.length=s.objs.length:=by rw[ho,List.length_map]
    rw[← hl]
    exact own_local hx fun k hk=>rfl
   | some h =>
    obtain⟨hk,hc,hf⟩:=h
    rw[hd] at hst
    simp only at hst
    have hwp:0 < wH ⟨hk,hc,hf⟩:=by have:=wH_ge (dH_some hd).1;omega
    have hwb:wH ⟨hk,hc,hf⟩≤1000:=by have:=wH_bound ⟨hk,hc,hf⟩;omega
    have cD:=fun w=>RDecode_some hxu hd w
    have cW:=fun w=>RWords_of ⟨hk,hc,hf⟩ w
    simp only at cD cW
    clear hd hxu hx hv e2 hcell
    obtain⟨q,hq⟩:∃ q:Nat,wH ⟨hk,hc,hf⟩=(q:Int):=⟨(wH ⟨hk,hc,hf⟩).toNat,by omega⟩
    simp only[hq] at cW hst hwp hwb
    have HQQ:=lh hq
    clear hq
    by_cases hz:dI v=Id.zero
    ·have HZ:Hid (s.size i=0):=lh (by rw[hst,if_neg (fun h=>h.1 hz)])
     have cI:=fun w=>RDecodeID_zero hvu hz w
     clear hst hz hvu
     go_wp2_with fail
     refine(cD _).mono ?_
     rintro e w2 ⟨rfl,hb2⟩
     have HB2:=lh (HB.out.trans (hb2.mono HSz.out))
     have HQ2:=HQ.out.below hb2 HQ.out.lt
     have HO2:=lh (own_local HO.out fun k hk=>hb2.block k (HO.out.lt k hk).2)
     have hne2:w.heap.size≠w2.heap.size:=Nat.ne_of_lt HQ2.lt
     clear q0 q1 q2
     obtain⟨q0,q1,q2⟩:=HQ2.c3
     have HQ2:=lh HQ2
     have HSz2:=lh (Nat.le_trans HSz.out hb2.size)
     clear hb2 cD
     go_upto_region 5 with fail
     have hb3:=(Below.refl _ w2).alloc (Nat.le_refl _) (.cells #[.int .i64 hk,.int .i64 hc,.int .i64 hf] 58)
     have HB3:=lh (HB2.out.trans (hb3.mono HSz2.out))
     have HQ3:=HQ2.out.below hb3 HQ2.out.lt
     have HO3:=lh (own_local HO2.out fun k hk=>hb3.block k (HO2.out.lt k hk).2)
     have HT3:Bk (w2.alloc (.cells #[.int .i64 hk,.int .i64 hc,.int .i64 hf] 58)) w2.heap.size 58 #[.int .i64 hk,.int .i64 hc,.int .i64 hf]:=Bk.here _ _ _ rfl
     have HSz3:=lh (Nat.le_trans HSz2.out hb3.size)
     generalize w2.alloc (.cells #[.int .i64 hk,.int .i64 hc,.int .i64 hf] 58)=w3 at *
     generalize w2.heap.size=gt at HT3 ⊢
     clear q0 q1 q2 hne2 hb3
     obtain⟨q0,q1,q2⟩:=HQ3.c3
     obtain⟨t0,t1,t2⟩:=HT3.c3
     have HQ3:=lh HQ3
     go_wp2_with fail
     refine(cW _).mono ?_
     rintro e w4 ⟨rfl,hb4⟩
     have HB4:=lh (HB3.out.trans (hb4.mono HSz3.out))
     have HQ4:=HQ3.out.below hb4 HQ3.out.lt
     have HO4:=lh (own_local HO3.out fun k hk=>hb4.block k (HO3.out.lt k hk).2)
     have HSz4:=lh (Nat.le_trans HSz3.out hb4.size)
     clear q0 q1 q2 t0 t1 t2 hb4 cW
     obtain⟨q0,q1,q2⟩:=HQ4.c3
     have HQ4:=lh HQ4
     have HBw4:=lh (HB1.out.trans (HB4.out.mono (Nat.le_succ _)))
     have e2:w4.cell? ⟨b,o+(i+1),none⟩=some (.int .u64 v):=(HB4.out.cell (p:=⟨b,o+(i+1),none⟩) (by show b < _;omega)).trans (HCELL.out (i+1) _ (wds_get HV.out))
     go_wp2_with fail
     refine(cI _).mono ?_
     rintro e w5 ⟨rfl,hb5⟩
     have HB5:=lh (HB4.out.trans (hb5.mono HSz4.out))
     have HQ5:=HQ4.out.below hb5 HQ4.out.lt
     have HO5:=lh (own_local HO4.out fun k hk=>hb5.block k (HO4.out.lt k hk).2)
     have HSz5:=lh (Nat.le_trans HSz4.out hb5.size)
     have HBw5:=lh (HB1.out.trans (HB5.out.mono (Nat.le_succ _)))
     clear q0 q1 q2 hb5 cI e2
     obtain⟨q0,q1,q2⟩:=HQ5.c3
     have HQ5:=lh HQ5
     go_wp2_with fail
     go_quiet (fail)
     go_wp2_with fail
     go_ret2
     obtain⟨ho,he⟩:=HW.out.stop HZ.out
     have hx:=own_mono HO5.out (Nat.le_succ _)
     rw[← ho] at hx
     refine⟨_,by rw[he];rfl,?_,below_drewN HBw5.out _⟩
     have hl:pre.length=s.objs.length:=by rw[ho,List.length_map]
     rw[← hl]
     exact own_local hx fun k hk=>rfl
    ·obtain⟨p,p2,hpz,cI⟩:=RDecodeID_ne hvu hz
     have hpz:=hpz.out
     by_cases hfit:i+q≤s.ws.length
     ·have hs:s.size i=q:=by rw[hst,if_pos ⟨hz,by omega⟩];omega
      have hng:¬ ((s.ws.length:Int) < (i:Int)+(q:Int)):=by omega
      have HN:=lh (HW.out.next (by omega))
      rw[hs] at HN
      clear hst hz hvu hs
      go_wp2_with fail
      refine(cD _).mono ?_
      rintro e w2 ⟨rfl,hb2⟩
      have HB2:=lh (HB.out.trans (hb2.mono HSz.out))
      have HQ2:=HQ.out.below hb2 HQ.out.lt
      have HO2:=lh (own_local HO.out fun k hk=>hb2.block k (HO.out.lt k hk).2)
      have hne2:w.heap.size≠w2.heap.size:=Nat.ne_of_lt HQ2.lt
      clear q0 q1 q2
      obtain⟨q0,q1,q2⟩:=HQ2.c3
      have HQ2:=lh HQ2
      have HSz2:=lh (Nat.le_trans HSz.out hb2.size)
      clear hb2 cD
      go_upto_region 5 with fail
      have hb3:=(Below.refl _ w2).alloc (Nat.le_refl _) (.cells #[.int .i64 hk,.int .i64 hc,.int .i64 hf] 58)
      have HB3:=lh (HB2.out.trans (hb3.mono HSz2.out))
      have HQ3:=HQ2.out.below hb3 HQ2.out.lt
      have HO3:=lh (own_local HO2.out fun k hk=>hb3.block k (HO2.out.lt k hk).2)
      have HT3:Bk (w2.alloc (.cells #[.int .i64 hk,.int .i64 hc,.int .i64 hf] 58)) w2.heap.size 58 #[.int .i64 hk,.int .i64 hc,.int .i64 hf]:=Bk.here _ _ _ rfl
      have HSz3:=lh (Nat.le_trans HSz2.out hb3.size)
      generalize w2.alloc (.cells #[.int .i64 hk,.int .i64 hc,.int .i64 hf] 58)=w3 at *
      generalize w2.heap.size=gt at HT3 ⊢
      clear q0 q1 q2 hne2 hb3
      obtain⟨q0,q1,q2⟩:=HQ3.c3
      obtain⟨t0,t1,t2⟩:=HT3.c3
      have HQ3:=lh HQ3
      go_wp2_with fail
      refine(cW _).mono ?_
      rintro e w4 ⟨rfl,hb4⟩
      have HB4:=lh (HB3.out.trans (hb4.mono HSz3.out))
      have HQ4:=HQ3.out.below hb4 HQ3.out.lt
      have HO4:=lh (own_local HO3.out fun k hk=>hb4.block k (HO3.out.lt k hk).2)
      have HSz4:=lh (Nat.le_trans HSz3.out hb4.size)
      clear q0 q1 q2 t0 t1 t2 hb4 cW
      obtain⟨q0,q1,q2⟩:=HQ4.c3
      have HQ4:=lh HQ4
      have HBw4:=lh (HB1.out.trans (HB4.out.mono (Nat.le_succ _)))
      have e2:w4.cell? ⟨b,o+(i+1),none⟩=some (.int .u64 v):=(HB4.out.cell (p:=⟨b,o+(i+1),none⟩) (by show b < _;omega)).trans (HCELL.out (i+1) _ (wds_get HV.out))
      go_wp2_with fail
      refine(cI _).mono ?_
      rintro e w5 ⟨rfl,hb5⟩
      have HB5:=lh (HB4.out.trans (hb5.mono HSz4.out))
      have HQ5:=HQ4.out.below hb5 HQ4.out.lt
      have HO5:=lh (own_local HO4.out fun k hk=>hb5.block k (HO4.out.lt k hk).2)
      have HSz5:=lh (Nat.le_trans HSz4.out hb5.size)
      have HBw5:=lh (HB1.out.trans (HB5.out.mono (Nat.le_succ _)))
      clear q0 q1 q2 hb5 cI e2
      obtain⟨q0,q1,q2⟩:=HQ5.c3
      have HQ5:=lh HQ5
      go_wp2_with (at_builtin;refine wpList_app rfl (.tmp 49) (.tmp 54) 23 rfl Tryz.underlying23 HI.out.1 HI.out.2.1 HI.out.2.2.1 HI.out.2.2.2 rfl (by decide) (n:=pre.length) (xs:=ints (pre.map fun(j:Nat)=>s.base+(j:Int))) (base:=w.heap.size+1) rfl (HO5.out.alloc _) (A:=some ⟨w5.heap.size,0,none⟩) (m:=1) (c:=1) (news:=[.int .i64 (s.base+(i:Int))]) rfl (Sl.new w5 3 [.int .i64 (s.base+(i:Int))]) (by simp[Value.oneCell']) (by unfold maxLen;omega) (by omega) (Nat.le_trans HSz5.out (by simp)) ?_;intro v7 w7 hown hgr h4;have HO7:=lh hown;have HG7:=lh hgr;clear hown hgr h4)
      have hB7:Below (w.heap.size+1) w1 w7:=(HB5.out.alloc HSz5.out (.cells #[.int .i64 (s.base+(i:Int))] 3)).grown HG7.out (Nat.le_trans HSz5.out (by simp)) (fun k hk=>(HO5.out.lt k hk).1)
      have HB7:=lh hB7
      clear q0 q1 q2 hB7
      go_wp2_with fail
      go_roundw
      case rel=>exact⟨i+q,pre++[i],by go_num,by omega,by simp;omega,HN,lh (by have:=HO7.out;simpa [ints] using this),HB7⟩
      case measure=>simp[intOf];omega
     ·have HZ:Hid (s.size i=0):=lh (by rw[hst,if_neg (fun h=>hfit (by omega))])
      have hng:(s.ws.length:Int) < (i:Int)+(q:Int):=by omega
      clear hst hz hvu
      go_wp2_with fail
      refine(cD _).mono ?_
      rintro e w2 ⟨rfl,hb2⟩
      have HB2:=lh (HB.out.trans (hb2.mono HSz.out))
      have HQ2:=HQ.out.below hb2 HQ.out.lt
      have HO2:=lh (own_local HO.out fun k hk=>hb2.block k (HO.out.lt k hk).2)
      have hne2:w.heap.size≠w2.heap.size:=Nat.ne_of_lt HQ2.lt
      clear q0 q1 q2
      obtain⟨q0,q1,q2⟩:=HQ2.c3
      have HQ2:=lh HQ2
      have HSz2:=lh (Nat.le_trans HSz.out hb2.size)
      clear hb2 cD
      go_upto_region 5 with fail
      have hb3:=(Below.refl _ w2).alloc (Nat.le_refl _) (.cells #[.int .i64 hk,.int .i64 hc,.int .i64 hf] 58)
      have HB3:=lh (HB2.out.trans (hb3.mono HSz2.out))
      have HQ3:=HQ2.out.below hb3 HQ2.out.lt
      have HO3:=lh (own_local HO2.out fun k hk=>hb3.block k (HO2.out.lt k hk).2)
      have HT3:Bk (w2.alloc (.cells #[.int .i64 hk,.int .i64 hc,.int .i64 hf] 58)) w2.heap.size 58 #[.int .i64 hk,.int .i64 hc,.int .i64 hf]:=Bk.here _ _ _ rfl
      have HSz3:=lh (Nat.le_trans HSz2.out hb3.size)
      generalize w2.alloc (.cells #[.int .i64 hk,.int .i64 hc,.int .i64 hf] 58)=w3 at *
      generalize w2.heap.size=gt at HT3 ⊢
      clear q0 q1 q2 hne2 hb3
      obtain⟨q0,q1,q2⟩:=HQ3.c3
      obtain⟨t0,t1,t2⟩:=HT3.c3
      have HQ3:=lh HQ3
      go_wp2_with fail
      refine(cW _).mono ?_
      rintro e w4 ⟨rfl,hb4⟩
      have HB4:=lh (HB3.out.trans (hb4.mono HSz3.out))
      have HQ4:=HQ3.out.below hb4 HQ3.out.lt
      have HO4:=lh (own_local HO3.out fun k hk=>hb4.block k (HO3.out.lt k hk).2)
      have HSz4:=lh (Nat.le_trans HSz3.out hb4.size)
      clear q0 q1 q2 t0 t1 t2 hb4 cW
      obtain⟨q0,q1,q2⟩:=HQ4.c3
      have HQ4:=lh HQ4
      have HBw4:=lh (HB1.out.trans (HB4.out.mono (Nat.le_succ _)))
      have e2:w4.cell? ⟨b,o+(i+1),none⟩=some (.int .u64 v):=(HB4.out.cell (p:=⟨b,o+(i+1),none⟩) (by show b < _;omega)).trans (HCELL.out (i+1) _ (wds_get HV.out))
      go_wp2_with fail
      refine(cI _).mono ?_
      rintro e w5 ⟨rfl,hb5⟩
      have HB5:=lh (HB4.out.trans (hb5.mono HSz4.out))
      have HQ5:=HQ4.out.below hb5 HQ4.out.lt
      have HO5:=lh (own_local HO4.out fun k hk=>hb5.block k (HO4.out.lt k hk).2)
      have HSz5:=lh (Nat.le_trans HSz4.out hb5.size)
      have HBw5:=lh (HB1.out.trans (HB5.out.mono (Nat.le_succ _)))
      clear q0 q1 q2 hb5 cI e2
      obtain⟨q0,q1,q2⟩:=HQ5.c3
      have HQ5:=lh HQ5
      go_wp2_with fail
      go_quiet (fail)
      go_wp2_with fail
      go_ret2
      obtain⟨ho,he⟩:=HW.out.stop HZ.out
      have hx:=own_mono HO5.out (Nat.le_succ _)
      rw[← ho] at hx
      refine⟨_,by rw[he];rfl,?_,below_drewN HBw5.out _⟩
      have hl:pre.length=s.objs.length:=by rw[ho,List.length_map]
      rw[← hl]
      exact own_local hx fun k hk=>rfl
  ·have HZ:Hid (s.size i=0):=lh (Spc.size_out (by omega))
   have hge:¬ ((i:Int)+1 < (s.ws.length:Int)):=by omega
   go_wp2_with fail
   go_quiet (fail)
   go_wp2_with fail
   go_ret2
   obtain⟨ho,he⟩:=HW.out.stop HZ.out
   have hx:=own_mono HO.out (Nat.le_succ _)
   rw[← ho] at hx
   refine⟨_,by rw[he];rfl,?_,?_⟩
   ·have hl:pre.length=s.objs.length:=by rw[ho,List.length_map]
    rw[← hl]
    exact own_local hx fun k hk=>rfl
   ·exact below_drewN HBw.out _
end
end
section
open Go.RowKit
theorem Mm.slotsAt_mem {m:Mm} {a:Int} {s:Int × Int}:s∈m.slotsAt a↔∃ i:Nat,(i:Int) < slotN (m.hdr a).2∧s.1=a+2+i∧m.at_ s.1=some s.2:=by
 unfold Mm.slotsAt
 simp only[List.mem_filterMap,List.mem_map,List.mem_range,Option.map_eq_some_iff]
 constructor
 ·rintro⟨b,⟨i,hi,rfl⟩,x,hx,rfl⟩
  exact⟨i,by omega,rfl,hx⟩
 ·rintro⟨i,hi,e,hx⟩
  exact⟨s.1,⟨i,by omega,e.symm⟩,s.2,hx,rfl⟩
theorem Mm.slotsAt_inc (m:Mm) (a:Int):(m.slotsAt a).Pairwise (fun s t=>s.1 < t.1):=by
 unfold Mm.slotsAt
 rw[List.pairwise_filterMap,List.pairwise_map]
 refine List.Pairwise.imp ?_ List.pairwise_lt_range
 intro i j hij s hs t ht
 simp only[Option.map_eq_some_iff] at hs ht
 obtain⟨x,_,rfl⟩:=hs
 obtain⟨y,_,rfl⟩:=ht
 show a+2+(i:Int) < a+2+(j:Int)
 omega
theorem Mm.Ok.slots_inc {m:Mm} (h:m.Ok):m.slots.Pairwise (fun s t=>s.1 < t.1):=by
 unfold Mm.slots
 rw[List.pairwise_flatMap]
 refine⟨fun a _=>m.slotsAt_inc a,?_⟩
 unfold Spc.objs
 rw[List.pairwise_map]
 have hw:=(m.old.walkFrom_mem m.old.ws.length 0 (by omega)).2.2.2.1
 rw[← Spc.walk_eq] at hw
 refine List.Pairwise.imp_of_mem ?_ hw
 intro t u ht hu htu s hs s' hs'
 obtain⟨i,hi,e,_⟩:=Mm.slotsAt_mem.1 hs
 obtain⟨j,hj,e',_⟩:=Mm.slotsAt_mem.1 hs'
 obtain⟨t',e1,_,_,_,hh,hsz⟩:=h.objs (a:=m.old.base+(t:Int)) (List.mem_map.2 ⟨t,ht,rfl⟩)
 have hv:=slotN_le (Mm.hdr_valid hh)
 have hb:=h.ob
 have:t'=t:=by omega
 subst this
 omega
theorem Mm.Ok.crossing_inc {m:Mm} (h:m.Ok) (p:Int→Bool):(m.crossing p).Pairwise (· < ·):=by
 unfold Mm.crossing
 rw[List.pairwise_map]
 exact h.slots_inc.filter _
theorem Mm.Ok.crossing_all {m:Mm} (h:m.Ok) {p:Int→Bool} {b:Int} (hb:b∈m.crossing p):(∃ x,m.at_ b=some x∧U64 x∧ygW x=true)∧m.old.has b=true∧p b=true∧b∈m.crossing fun _=>true:=by
 have hb2:=hb
 obtain⟨a,ha,i,hi,e,x,hx,hy,hp⟩:=Mm.crossing_mem.1 hb
 refine⟨⟨x,hx,h.at_u hx,hy⟩,e ▸ h.slot_old ha hi,hp,Mm.crossing_mem.2 ⟨a,ha,i,hi,e,x,hx,hy,rfl⟩⟩
theorem Mm.Ok.crossing_len2 {m:Mm} (h:m.Ok) (p:Int→Bool):(m.crossing p).length≤536870912:=by
 unfold Mm.crossing
 rw[List.length_map]
 refine Nat.le_trans (List.length_filter_le _ _) ?_
 unfold Mm.slots
 have h1:=flatMap_len m.slotsAt 31 m.old.objs fun a _=>by
  unfold Mm.slotsAt
  refine Nat.le_trans (List.length_filterMap_le _ _) ?_
  simp only[List.length_map,List.length_range]
  exact slotN_31 a
 have h2:m.old.objs.length≤m.old.ws.length:=by
  unfold Spc.objs Spc.walk
  rw[List.length_map]
  exact Spc.walkN_len _ _ _
 have h3:=h.o.lim
 have h4:=h.ol
 have h5:=h.o.b0
 omega
end
section
open Go.RowKit Go.Sort Go.Shelf
attribute [local go_sem] Oper.semAt_some onlyN_normal
theorem RSlots_any (h:Hdr) (w:World):Calls Tryz.prog 26 #[.agg #[.int .i64 h.k,.int .i64 h.c,.int .i64 h.f]] w fun e w'=>e=.returned (.int .i64 (slotN h))∧Below w.heap.size w w':=by
 have HB:=lh (boxH w h)
 unfold slotN
 by_cases h3:h.k=3
 ·have e3:(h.k == 3)=true:=by simp[h3]
  rw[if_pos h3]
  clear h3
  go_enter Tryz.func26,Tryz.ntmps26
  go_wp2_with fail
  go_ret
  exact⟨rfl,HB.out⟩
 ·have e3:(h.k == 3)=false:=by simp[h3]
  rw[if_neg h3]
  clear h3
  by_cases h4:h.k=4
  ·have e4:(h.k == 4)=true:=by simp[h4]
   rw[if_pos h4]
   clear h4
   go_enter Tryz.func26,Tryz.ntmps26
   go_wp2_with fail
   go_ret
   exact⟨rfl,HB.out⟩
  ·have e4:(h.k == 4)=false:=by simp[h4]
   rw[if_neg h4]
   clear h4
   go_enter Tryz.func26,Tryz.ntmps26
   go_wp2_with fail
   go_ret
   exact⟨rfl,HB.out⟩
/-- the crossing slots among the first of an object -/
def crS (m:Mm) (a:Int) (j:Nat):List Int:=((((List.range j).map fun(i:Nat)=>a+2+(i:Int)).filterMap fun b=>(m.at_ b).map fun x=>(b,x)).filter fun s=>ygW s.2).map (·.1)
def crT (m:Mm) (l:List Int):List Int:=((l.flatMap m.slotsAt).filter fun s=>ygW s.2).map (·.1)
theorem crS_succ (m:Mm) (a:Int) (j:Nat) {x:Int} (hx:m.at_ (a+2+(j:Int))=some x):crS m a (j+1)=crS m a j++if ygW x=true then [a+2+(j:Int)] else []:=by
 unfold crS
 rw[List.range_succ,List.map_append,List.filterMap_append,List.filter_append,List.map_append]
 congr 1
 simp only[List.map_cons,List.map_nil,List.filterMap_cons,List.filterMap_nil,hx,Option.map_some]
 cases hy:ygW x <;> simp[hy]
theorem crS_full (m:Mm) (l:List Int) (a:Int):crT m (l++[a])=crT m l++crS m a (slotN (m.hdr a).2).toNat:=by
 unfold crT crS Mm.slotsAt
 simp
theorem crT_all (m:Mm):crT m m.old.objs=m.crossing fun _=>true:=by
 unfold crT Mm.crossing Mm.slots
 simp
theorem crS_len (m:Mm) (a:Int) (j:Nat):(crS m a j).length≤j:=by
 unfold crS
 rw[List.length_map]
 refine Nat.le_trans (List.length_filter_le _ _) (Nat.le_trans (List.length_filterMap_le _ _) ?_)
 simp
theorem crT_len (m:Mm):∀ l:List Int,(crT m l).length≤l.length*31:=by
 intro l
 unfold crT
 rw[List.length_map]
 refine Nat.le_trans (List.length_filter_le _ _) ?_
 refine flatMap_len m.slotsAt 31 l fun a _=>?_
 unfold Mm.slotsAt
 refine Nat.le_trans (List.length_filterMap_le _ _) ?_
 simp only[List.length_map,List.length_range]
 exact slotN_31 a
theorem objs_len {m:Mm} (h:m.Ok):m.old.objs.length≤16777216:=by
 have h2:m.old.objs.length≤m.old.ws.length:=by
  unfold Spc.objs Spc.walk
  rw[List.length_map]
  exact Spc.walkN_len _ _ _
 have h3:=h.o.lim
 have h4:=h.ol
 have h5:=h.o.b0
 omega
section
variable {w:World} {m:Mm} {A1 A2:Option Addr} {u1 u2:Nat}
set_option maxHeartbeats 8000000 in
theorem RCrossing_any (h:RM w m A1 u1 A2 u2) (ok:m.Ok):Calls Tryz.prog 51 #[rmV m A1 u1 A2 u2] w fun e W'=>∃ v,e=.returned v∧W'.ownsRow w.heap.size 3 1 v (m.crossing fun _=>true).length (ints (m.crossing fun _=>true))∧Below w.heap.size w W':=by
 obtain⟨i9,hi9,hi0,hi1,hi2⟩:=info_parts i_int2
 have HI:=lh (And.intro hi9 (And.intro hi0 (And.intro hi1 hi2)))
 clear hi9 hi0 hi1 hi2
 have hb0:=boxR2 w m A1 u1 A2 u2 (.cells #[] 3)
 have H1:=lh (h.below hb0)
 have HQ1:Hid (Bk ((w.alloc (.cells (rmC m A1 u1 A2 u2) 35)).alloc (.cells #[] 3)) w.heap.size 35 (rmC m A1 u1 A2 u2)):=lh ((Bk.new _ _ _).alloc _)
 have HO1:Hid (World.ownsRow ((w.alloc (.cells (rmC m A1 u1 A2 u2) 35)).alloc (.cells #[] 3)) (w.heap.size+1) 3 1 (.slice (some ⟨w.heap.size+1,0,none⟩) 0 0) 0 []):=lh (ownEmpty 1 (Bk.here _ _ _ (by simp)) (Nat.le_refl _))
 have HZ1:Hid (w.heap.size+2≤((w.alloc (.cells (rmC m A1 u1 A2 u2) 35)).alloc (.cells #[] 3)).heap.size):=lh (by simp)
 have HB1:=lh hb0
 have HLT:Hid (∀ b o,A1=some ⟨b,o,none⟩ ∨ A2=some ⟨b,o,none⟩→b < w.heap.size):=lh (fun b o e=>e.elim (h.o.lt b o) (h.y.lt b o))
 have OK:=lh ok
 unfold rmV
 clear h hb0 ok
 go_enter Tryz.func51,Tryz.ntmps51
 go_upto_region 2 with fail
 generalize (w.alloc (.cells (rmC m A1 u1 A2 u2) 35)).alloc (.cells #[] 3)=w1 at *
 obtain⟨q0,q1,q2,q3,q4,q5⟩:=HQ1.out.c6
 have cW:=RWalk_any H1.out.o
 unfold rsV at cW
 go_wp2_with fail
 refine cW.mono ?_
 rintro e w2 ⟨vl,rfl,hol,hb2⟩
 have H2:=lh (H1.out.below hb2)
 have HQ2:=lh (HQ1.out.below hb2 HQ1.out.lt)
 have HO2:=lh (own_local HO1.out fun k hk=>hb2.block k (HO1.out.lt k hk).2)
 have HB2:=lh (HB1.out.trans (hb2.mono HB1.out.size))
 have HZ2:=lh (Nat.le_trans HZ1.out hb2.size)
 have HOL:=lh hol
 have HLB:Hid (∀ q,vl.ownBlock=some q→w.heap.size+2≤q):=lh (fun q hq=>Nat.le_trans HZ1.out (hol.lt q hq).1)
 obtain⟨Al,cl,rfl,hlc⟩:=own_shape hol
 obtain⟨l,hl⟩:∃ l,l=m.old.objs:=⟨_,rfl⟩
 have hll:l.length≤16777216:=hl ▸ objs_len OK.out
 rw[← hl] at HOL hlc ⊢
 have HL:=lh hl
 clear hb2 hol cW q0 q1 q2 q3 q4 q5 hl
 go_wp2_with fail
 go_loopw [3,6] (fun v i_ wr=>∃ (i:Nat),i_=.int .i64 (i:Int)∧i≤l.length∧Hid (wr.ownsRow (w.heap.size+1) 3 1 v (crT m (l.take i)).length (ints (crT m (l.take i))))∧Hid (∀ q,v.ownBlock=some q→q=w.heap.size+1 ∨ w2.heap.size≤q)∧Hid (Kp (fun k=>k=w.heap.size+1) w2 wr)) (fun _ i_ _=>l.length - (intOf i_).toNat)
 case atStart=>exact⟨0,rfl,Nat.zero_le _,lh (by have:=HO2.out;simpa [crT,ints] using this),lh (fun q hq=>.inl (by cases hq;rfl)),lh (Kp.refl _ _)⟩
 case round =>
  obtain⟨i,rfl,hi,HO,HV,HK⟩:=hrel
  by_cases hlt:i < l.length
  ·have hx:l[i]?=some l[i]:=List.getElem?_eq_getElem hlt
   obtain⟨b,o,hA,hbl,hcell⟩:=(own_sl HOL.out).get hlt
   subst hA
   have hcb:=HLB.out b rfl
   have e1:wr.cell? ⟨b,o+i,none⟩=some (.int .i64 l[i]):=HK.out.cell (hcell i _ (by simp[ints,hx])) (by show b≠_;omega)
   have hmem:l[i]∈m.old.objs:=HL.out ▸ List.getElem_mem hlt
   have hT:l.take (i+1)=l.take i++[l[i]]:=by rw[List.take_add_one,hx];rfl
   generalize l[i]=a at *
   obtain⟨t,hat,_,_,hao,hhd,hsz⟩:=OK.out.objs hmem
   have hab:=OK.out.old_lt hao
   have hic:i < cl:=by omega
   have hrm:=H2.out.kp HK.out (fun b o e=>by have:=HLT.out b o e;omega)
   have hq:=HQ2.out.kp HK.out (by show w.heap.size≠w.heap.size+1;omega)
   have HRM:=lh hrm
   have HQ:=lh hq
   obtain⟨hd,hhdd⟩:∃ hd,m.hdr a=(0,hd):=⟨(m.hdr a).2,Prod.ext hhd rfl⟩
   have HHD:=lh hhdd
   have cH:=fun {w1:World} (hb:Below wr.heap.size wr w1)=>RHeader_any (hrm.below hb) a
   unfold hdrV Hdr.val rmV at cH
   simp only[hhdd] at cH
   have HT:=lh hT
   have HX:=lh hx
   have HE1:=lh e1
   have HBL:Hid (b < wr.heap.size):=lh (Nat.lt_of_lt_of_le hbl HK.out.size)
   have HMEM:=lh hmem
   have HOBJ:Hid (∀ j:Nat,(j:Int) < slotN hd→∃ x,m.at_ (a+2+(j:Int))=some x∧U64 x):=lh (fun j hj=>by
    have h1:=OK.out.slot_old hmem (i:=j) (by rw[hhdd];exact hj)
    obtain⟨_,_,_,x,_,hx⟩:=Spc.at_some h1
    have h2:m.at_ (a+2+(j:Int))=some x:=by unfold Mm.at_ Mm.sp;rw[if_pos h1];exact hx
    exact⟨x,h2,OK.out.at_u h2⟩)
   have hsb:0≤slotN hd∧slotN hd≤31:=by
    have h1:=Mm.hdr_valid hhd
    rw[hhdd] at h1
    have h1:vH hd=true:=h1
    have h2:=slotN_le h1
    have h3:=wH_bound hd
    refine⟨?_,by omega⟩
    unfold slotN
    have:=(wH_ge h1).2
    split
    ·omega
    ·split
     ·omega
     ·exact(vH_bound h1).2.2.2.2.1
   clear hrm hq hhdd hat hao hhd hsz hT hmem hx hcell
   go_wp2_with fail
   refine wp_region_addsF0 10 (fun i=>([[],[],[],[1,2],[3],[0,4],[5],[6],[6],[]]:List (List Nat)).getD i []) [8] (EL [Ent.val (.agg #[.int .i64 m.old.base,.int .i64 m.old.limit,.slice A1 m.old.ws.length u1,.int .i64 m.yng.base,.int .i64 m.yng.limit,.slice A2 m.yng.ws.length u2]),Ent.val (.slice (some ⟨b,o,none⟩) l.length cl),Ent.val (.int .i64 (i:Int)),Ent.val (.pointer (some ⟨b,o+i,none⟩)),Ent.val (.int .i64 a),Ent.val (.tuple #[.agg #[.int .i64 hd.k,.int .i64 hd.c,.int .i64 hd.f],.int .i64 0]),Ent.val (.tuple #[.agg #[.int .i64 hd.k,.int .i64 hd.c,.int .i64 hd.f],.int .i64 0]),Ent.val (.agg #[.int .i64 hd.k,.int .i64 hd.c,.int .i64 hd.f]),Ent.val (.int .i64 0),Ent.blk 58 #[.int .i64 0,.int .i64 0,.int .i64 0]]) (by kernel_rfl) (by kernel_rfl) (by kernel_rfl) (by kernel_rfl) (by kernel_rfl) (by rfl) ?_ ?_
   ·intro i hi o ho vs w3 hb1 hgr
    rcases (show i=0 ∨ i=1 ∨ i=2 ∨ i=3 ∨ i=4 ∨ i=5 ∨ i=6 ∨ i=7 ∨ i=8 ∨ i=9 by omega) with rfl | rfl | rfl | rfl | rfl | rfl | rfl | rfl | rfl | rfl <;> cases ho
    ·clear hgr
     change Made _ (Adds _ _ _) (Sem.run _ (execOp (Act.eval (frm _ _ _ [])) _) _)
     simp only[frm]
     have hbk:=HQ.out.below hb1 HQ.out.lt
     have c0:w3.cell? ⟨w.heap.size,0,none⟩=some (.int .i64 m.old.base):=hbk.cell 0
     have c1:w3.cell? ⟨w.heap.size,1,none⟩=some (.int .i64 m.old.limit):=hbk.cell 1
     have c2:w3.cell? ⟨w.heap.size,2,none⟩=some (.slice A1 m.old.ws.length u1):=hbk.cell 2
     have c3:w3.cell? ⟨w.heap.size,3,none⟩=some (.int .i64 m.yng.base):=hbk.cell 3
     have c4:w3.cell? ⟨w.heap.size,4,none⟩=some (.int .i64 m.yng.limit):=hbk.cell 4
     have c5:w3.cell? ⟨w.heap.size,5,none⟩=some (.slice A2 m.yng.ws.length u2):=hbk.cell 5
     clear hbk
     go_simp
     exact adds_val rfl
    ·clear hgr
     change Made _ (Adds _ _ _) (Sem.run _ (execOp (Act.eval (frm _ _ _ [])) _) _)
     simp only[frm]
     go_simp
     exact adds_val rfl
    ·clear hgr
     change Made _ (Adds _ _ _) (Sem.run _ (execOp (Act.eval (frm _ _ _ [])) _) _)
     simp only[frm]
     go_simp
     exact adds_val rfl
    ·have h1:vs 1=_:=hgr 1 (by decide)
     have h2:vs 2=_:=hgr 2 (by decide)
     clear hgr
     change Made _ (Adds _ _ _) (Sem.run _ (execOp (Act.eval (Act.put (Act.put (frm _ _ _ []) (some 28) (vs 2)) (some 27) (vs 1))) _) _)
     simp only[frm,h1,h2]
     go_simp
     exact adds_val rfl
    ·have h3:vs 3=_:=hgr 3 (by decide)
     clear hgr
     change Made _ (Adds _ _ _) (Sem.run _ (execOp (Act.eval (Act.put (frm _ _ _ []) (some 29) (vs 3))) _) _)
     simp only[frm,h3]
     have ce:w3.cell? ⟨b,o+i,none⟩=some (.int .i64 a):=(hb1.cell (p:=⟨b,o+i,none⟩) HBL.out).trans HE1.out
     go_simp
     exact adds_val rfl
    ·have h0:vs 0=_:=hgr 0 (by decide)
     have h4:vs 4=_:=hgr 4 (by decide)
     clear hgr
     change Made _ (Adds _ _ _) (Sem.run _ (execOp (Act.eval (Act.put (Act.put (frm _ _ _ []) (some 30) (vs 4)) (some 26) (vs 0))) _) _)
     simp only[frm,h0,h4]
     have cH:=cH hb1
     go_simp
     exact adds_below cH
    ·have h5:vs 5=_:=hgr 5 (by decide)
     clear hgr
     change Made _ (Adds _ _ _) (Sem.run _ (execOp (Act.eval (Act.put (frm _ _ _ []) (some 31) (vs 5))) _) _)
     simp only[frm,h5]
     go_simp
     exact adds_val rfl
    ·have h6:vs 6=_:=hgr 6 (by decide)
     clear hgr
     change Made _ (Adds _ _ _) (Sem.run _ (execOp (Act.eval (Act.put (frm _ _ _ []) (some 25) (vs 6))) _) _)
     simp only[frm,h6]
     go_simp
     exact adds_val rfl
    ·have h6:vs 6=_:=hgr 6 (by decide)
     clear hgr
     change Made _ (Adds _ _ _) (Sem.run _ (execOp (Act.eval (Act.put (frm _ _ _ []) (some 25) (vs 6))) _) _)
     simp only[frm,h6]
     go_simp
     exact adds_val rfl
    ·clear hgr
     change Made _ (Adds _ _ _) (Sem.run _ (execOp (Act.eval (frm _ _ _ [])) _) _)
     simp only[frm]
     go_simp
     exact adds_blk
   ·intro vs w3 hb1 hall hap
    have h7:vs 7=_:=(hall 7 (by omega)).1
    have h8:vs 8=_:=(hall 8 (by omega)).1
    obtain⟨⟨g9,h9,k9⟩,q9⟩:=hall 9 (by omega)
    have r9:wr.heap.size≤g9∧g9 < w3.heap.size:=q9 g9 (by rw[h9];rfl)
    clear q9
    clear hall hap
    change wpList _ _ _ [_,_] (Act.put (Act.put (Act.put (Act.put (Act.put (Act.put (Act.put (Act.put (Act.put (Act.put (frm _ _ _ []) (some 7) (vs 9)) (some 33) (vs 8)) (some 32) (vs 7)) (some 25) (vs 6)) (some 31) (vs 5)) (some 30) (vs 4)) (some 29) (vs 3)) (some 28) (vs 2)) (some 27) (vs 1)) (some 26) (vs 0)) _
    simp only[frm,h7,h8,h9]
    have hg9:Hid (wr.heap.size≤g9):=lh r9.1
    have HB3:=lh hb1
    have hz0:w3.cell? ⟨g9,0,none⟩=some (.int .i64 0):=k9.cell 0
    have hz1:w3.cell? ⟨g9,1,none⟩=some (.int .i64 0):=k9.cell 1
    have hz2:w3.cell? ⟨g9,2,none⟩=some (.int .i64 0):=k9.cell 2
    have hf0:w3.frozen? ⟨g9,0,none⟩=false:=k9.free 0
    have hf1:w3.frozen? ⟨g9,1,none⟩=false:=k9.free 1
    have hf2:w3.frozen? ⟨g9,2,none⟩=false:=k9.free 2
    have K9:=lh k9
    clear hb1 k9 r9 cH h7 h8 h9 e1
    go_wp2_with fail
    rw[onlyN_normal]
    have K4:Bk (((w3.setCell ⟨g9,0,none⟩ (.int .i64 hd.k)).setCell ⟨g9,1,none⟩ (.int .i64 hd.c)).setCell ⟨g9,2,none⟩ (.int .i64 hd.f)) g9 58 #[.int .i64 hd.k,.int .i64 hd.c,.int .i64 hd.f]:=K9.out.set3 _ _ _
    have B4:Below wr.heap.size wr (((w3.setCell ⟨g9,0,none⟩ (.int .i64 hd.k)).setCell ⟨g9,1,none⟩ (.int .i64 hd.c)).setCell ⟨g9,2,none⟩ (.int .i64 hd.f)):=below_set3 HB3.out hg9.out _ _ _
    have K4:=lh K4
    have B4:=lh B4
    clear hz0 hz1 hz2 hf0 hf1 hf2 K9
    generalize ((w3.setCell ⟨g9,0,none⟩ (.int .i64 hd.k)).setCell ⟨g9,1,none⟩ (.int .i64 hd.c)).setCell ⟨g9,2,none⟩ (.int .i64 hd.f)=w4 at K4 B4 ⊢
    have HO4:=lh (own_local HO.out fun k hk=>B4.out.block k (HO.out.lt k hk).2)
    have HK4:Hid (Kp (fun k=>k=w.heap.size+1) w2 w4):=lh (HK.out.trans (Kp.of_below (S:=fun k=>k=w.heap.size+1) B4.out) fun _ _ h=>h)
    obtain⟨sn,hsn⟩:∃ sn:Nat,slotN hd=(sn:Int):=⟨(slotN hd).toNat,by omega⟩
    have cS:=fun w=>RSlots_any hd w
    rw[hsn] at cS hsb HOBJ
    have HSN:=lh hsn
    have hsn31:sn≤31:=by omega
    clear hsn hsb
    go_wp2_with fail
    go_loopw [3,9] (fun v j_ wz=>∃ (j:Nat),j_=.int .i64 (j:Int)∧j≤sn∧Hid (wz.ownsRow (w.heap.size+1) 3 1 v (crT m (l.take i)++crS m a j).length (ints (crT m (l.take i)++crS m a j)))∧Hid (∀ q,v.ownBlock=some q→q=w.heap.size+1 ∨ w2.heap.size≤q)∧Hid (Kp (fun k=>k=w.heap.size+1) w2 wz)∧Hid (Bk wz g9 58 #[.int .i64 hd.k,.int .i64 hd.c,.int .i64 hd.f])) (fun _ j_ _=>sn - (intOf j_).toNat)
    case atStart=>exact⟨0,rfl,Nat.zero_le _,lh (by have:=HO4.out;simpa [crS] using this),HV,HK4,K4⟩
    case round =>
     obtain⟨j,rfl,hj,HOj,HVj,HKj,HGj⟩:=hrel
     obtain⟨t0,t1,t2⟩:=HGj.out.c3
     by_cases hjl:j < sn
     ·go_wp2_with fail
      refine(cS _).mono ?_
      rintro e w5 ⟨rfl,hb5⟩
      have HK5:Hid (Kp (fun k=>k=w.heap.size+1) w2 w5):=lh (HKj.out.trans (Kp.of_below (S:=fun k=>k=w.heap.size+1) hb5) fun _ _ h=>h)
      have HO5:=lh (own_local HOj.out fun k hk=>hb5.block k (HOj.out.lt k hk).2)
      have HG5:=lh (HGj.out.below hb5 HGj.out.lt)
      have HRM5:=lh (H2.out.kp HK5.out (fun b o e=>by have:=HLT.out b o e;omega))
      have HQ5:=lh (HQ2.out.kp HK5.out (by show w.heap.size≠w.heap.size+1;omega))
      obtain⟨b',o',hbo,hbl5,hcell⟩:=(own_sl HOL.out).get hlt
      cases hbo
      have HE5:Hid (w5.cell? ⟨b,o+i,none⟩=some (.int .i64 a)):=lh (HK5.out.cell (hcell i _ (by simp[ints,HX.out])) (by show b≠_;omega))
      have HBL5:Hid (b < w5.heap.size):=lh (Nat.lt_of_lt_of_le hbl5 HK5.out.size)
      obtain⟨x,hx,hxu⟩:=HOBJ.out j (by omega)
      have cL:=fun {w1:World} (hb:Below w5.heap.size w5 w1)=>RLoad_any (HRM5.out.below hb) (a+2+(j:Int))
      unfold atV rmV at cL
      simp only[hx] at cL
      have HXX:=lh (And.intro hx hxu)
      have cY:=fun w=>Young_any hxu w
      have hjI:(j:Int) < (sn:Int):=by omega
      clear t0 t1 t2 hb5 hcell hx hxu
      go_wp2_with fail
      refine wp_region_all 14 (fun i=>([[],[],[],[1,2],[3],[4],[],[5,6],[0,7],[8],[9],[9],[10],[11]]:List (List Nat)).getD i []) (EL [Ent.val (.agg #[.int .i64 m.old.base,.int .i64 m.old.limit,.slice A1 m.old.ws.length u1,.int .i64 m.yng.base,.int .i64 m.yng.limit,.slice A2 m.yng.ws.length u2]),Ent.val (.slice (some ⟨b,o,none⟩) l.length cl),Ent.val (.int .i64 (i:Int)),Ent.val (.pointer (some ⟨b,o+i,none⟩)),Ent.val (.int .i64 a),Ent.val (.int .i64 (a+2)),Ent.val (.int .i64 (j:Int)),Ent.val (.int .i64 (a+2+(j:Int))),Ent.val (.tuple #[.int .u64 x,.int .i64 0]),Ent.val (.tuple #[.int .u64 x,.int .i64 0]),Ent.val (.int .u64 x),Ent.val (.int .i64 0),Ent.val (.int .u64 x),Ent.val (.int .i64 0)]) rfl (by kernel_rfl) (by rfl) (by kernel_rfl) (by kernel_rfl) (by rfl) ?_ ?_
      ·intro i hi o ho vs w6 hb1 hgr
       rcases (show i=0 ∨ i=1 ∨ i=2 ∨ i=3 ∨ i=4 ∨ i=5 ∨ i=6 ∨ i=7 ∨ i=8 ∨ i=9 ∨ i=10 ∨ i=11 ∨ i=12 ∨ i=13 by omega) with rfl | rfl | rfl | rfl | rfl | rfl | rfl | rfl | rfl | rfl | rfl | rfl | rfl | rfl <;> cases ho
       ·clear hgr
        change Made _ (Adds _ _ _) (Sem.run _ (execOp (Act.eval (frm _ _ _ [])) _) _)
        simp only[frm]
        have hbk:=HQ5.out.below hb1 HQ5.out.lt
        have c0:w6.cell? ⟨w.heap.size,0,none⟩=some (.int .i64 m.old.base):=hbk.cell 0
        have c1:w6.cell? ⟨w.heap.size,1,none⟩=some (.int .i64 m.old.limit):=hbk.cell 1
        have c2:w6.cell? ⟨w.heap.size,2,none⟩=some (.slice A1 m.old.ws.length u1):=hbk.cell 2
        have c3:w6.cell? ⟨w.heap.size,3,none⟩=some (.int .i64 m.yng.base):=hbk.cell 3
        have c4:w6.cell? ⟨w.heap.size,4,none⟩=some (.int .i64 m.yng.limit):=hbk.cell 4
        have c5:w6.cell? ⟨w.heap.size,5,none⟩=some (.slice A2 m.yng.ws.length u2):=hbk.cell 5
        clear hbk
        go_simp
        exact adds_val rfl
       ·clear hgr
        change Made _ (Adds _ _ _) (Sem.run _ (execOp (Act.eval (frm _ _ _ [])) _) _)
        simp only[frm]
        go_simp
        exact adds_val rfl
       ·clear hgr
        change Made _ (Adds _ _ _) (Sem.run _ (execOp (Act.eval (frm _ _ _ [])) _) _)
        simp only[frm]
        go_simp
        exact adds_val rfl
       ·have h1:vs 1=_:=hgr 1 (by decide)
        have h2:vs 2=_:=hgr 2 (by decide)
        clear hgr
        change Made _ (Adds _ _ _) (Sem.run _ (execOp (Act.eval (Act.put (Act.put (frm _ _ _ []) (some 43) (vs 2)) (some 42) (vs 1))) _) _)
        simp only[frm,h1,h2]
        go_simp
        exact adds_val rfl
       ·have h3:vs 3=_:=hgr 3 (by decide)
        clear hgr
        change Made _ (Adds _ _ _) (Sem.run _ (execOp (Act.eval (Act.put (frm _ _ _ []) (some 44) (vs 3))) _) _)
        simp only[frm,h3]
        have ce:w6.cell? ⟨b,o+i,none⟩=some (.int .i64 a):=(hb1.cell (p:=⟨b,o+i,none⟩) HBL5.out).trans HE5.out
        go_simp
        exact adds_val rfl
       ·have h4:vs 4=_:=hgr 4 (by decide)
        clear hgr
        change Made _ (Adds _ _ _) (Sem.run _ (execOp (Act.eval (Act.put (frm _ _ _ []) (some 45) (vs 4))) _) _)
        simp only[frm,h4]
        have hw5:IntKind.i64.wrap (a+2)=a+2:=IntWalk.i64_in _ (by omega)
        go_simp
        exact adds_val rfl
       ·clear hgr
        change Made _ (Adds _ _ _) (Sem.run _ (execOp (Act.eval (frm _ _ _ [])) _) _)
        simp only[frm]
        go_simp
        exact adds_val rfl
       ·have h5:vs 5=_:=hgr 5 (by decide)
        have h6:vs 6=_:=hgr 6 (by decide)
        clear hgr
        change Made _ (Adds _ _ _) (Sem.run _ (execOp (Act.eval (Act.put (Act.put (frm _ _ _ []) (some 47) (vs 6)) (some 46) (vs 5))) _) _)
        simp only[frm,h5,h6]
        have hw7:IntKind.i64.wrap (a+2+(j:Int))=a+2+(j:Int):=IntWalk.i64_in _ (by omega)
        go_simp
        exact adds_val rfl
       ·have h0:vs 0=_:=hgr 0 (by decide)
        have h7:vs 7=_:=hgr 7 (by decide)
        clear hgr
        change Made _ (Adds _ _ _) (Sem.run _ (execOp (Act.eval (Act.put (Act.put (frm _ _ _ []) (some 48) (vs 7)) (some 41) (vs 0))) _) _)
        simp only[frm,h0,h7]
        have cL:=cL hb1
        go_simp
        exact adds_below cL
       ·have h8:vs 8=_:=hgr 8 (by decide)
        clear hgr
        change Made _ (Adds _ _ _) (Sem.run _ (execOp (Act.eval (Act.put (frm _ _ _ []) (some 49) (vs 8))) _) _)
        simp only[frm,h8]
        go_simp
        exact adds_val rfl
       ·have h9:vs 9=_:=hgr 9 (by decide)
        clear hgr
        change Made _ (Adds _ _ _) (Sem.run _ (execOp (Act.eval (Act.put (frm _ _ _ []) (some 40) (vs 9))) _) _)
        simp only[frm,h9]
        go_simp
        exact adds_val rfl
       ·have h9:vs 9=_:=hgr 9 (by decide)
        clear hgr
        change Made _ (Adds _ _ _) (Sem.run _ (execOp (Act.eval (Act.put (frm _ _ _ []) (some 40) (vs 9))) _) _)
        simp only[frm,h9]
        go_simp
        exact adds_val rfl
       ·have h10:vs 10=_:=hgr 10 (by decide)
        clear hgr
        change Made _ (Adds _ _ _) (Sem.run _ (execOp (Act.eval (Act.put (frm _ _ _ []) (some 50) (vs 10))) _) _)
        simp only[frm,h10]
        go_simp
        exact adds_val rfl
       ·have h11:vs 11=_:=hgr 11 (by decide)
        clear hgr
        change Made _ (Adds _ _ _) (Sem.run _ (execOp (Act.eval (Act.put (frm _ _ _ []) (some 51) (vs 11))) _) _)
        simp only[frm,h11]
        go_simp
        exact adds_val rfl
      ·intro vs w6 hb1 hall hap
       have h12:vs 12=_:=(hall 12 (by omega)).1
       have h13:vs 13=_:=(hall 13 (by omega)).1
       clear hall hap
       change wpList _ _ _ [] (Act.put (Act.put (Act.put (Act.put (Act.put (Act.put (Act.put (Act.put (Act.put (Act.put (Act.put (Act.put (Act.put (Act.put (frm _ _ _ []) (some 11) (vs 13)) (some 10) (vs 12)) (some 51) (vs 11)) (some 50) (vs 10)) (some 40) (vs 9)) (some 49) (vs 8)) (some 48) (vs 7)) (some 47) (vs 6)) (some 46) (vs 5)) (some 45) (vs 4)) (some 44) (vs 3)) (some 43) (vs 2)) (some 42) (vs 1)) (some 41) (vs 0)) _
       simp only[frm,h12,h13]
       have HK6:Hid (Kp (fun k=>k=w.heap.size+1) w2 w6):=lh (HK5.out.trans (Kp.of_below (S:=fun k=>k=w.heap.size+1) hb1) fun _ _ h=>h)
       have HO6:=lh (own_local HO5.out fun k hk=>hb1.block k (HO5.out.lt k hk).2)
       have HG6:=lh (HG5.out.below hb1 HG5.out.lt)
       have HE6:w6.cell? ⟨b,o+i,none⟩=some (.int .i64 a):=(hb1.cell (p:=⟨b,o+i,none⟩) HBL5.out).trans HE5.out
       have HSUC:=lh (crS_succ m a j HXX.out.1)
       have hlen1:=crT_len m (l.take i)
       have hlen2:=crS_len m a j
       have hlen3:(l.take i).length≤i:=List.length_take_le _ _
       have hlenA:(crT m (l.take i)++crS m a j).length≤536870912:=by rw[List.length_append];omega
       have HSZ6:Hid (w.heap.size+1≤w6.heap.size):=lh (by have:=HZ2.out;have:=HK6.out.size;omega)
       clear hb1 h12 h13 hlen1 hlen2 hlen3 cL
       obtain⟨pre,hpre⟩:∃ pre,pre=crT m (l.take i)++crS m a j:=⟨_,rfl⟩
       have HPRE:=lh hpre
       rw[← hpre] at HO6 hlenA
       clear hpre
       go_wp2_with fail
       refine(cY _).mono ?_
       rintro e w7 ⟨rfl,rfl⟩
       clear cY
       cases hy:ygW x with
       | false =>
        rw[hy,if_neg (by decide)] at HSUC
        go_wp2_with fail
        go_roundw
        case rel=>exact⟨j+1,by go_num,by omega,lh (by rw[HSUC.out,List.append_nil,← HPRE.out];exact HO6.out),HVj,HK6,HG6⟩
        case measure=>simp[intOf];omega
       | true =>
        rw[hy,if_pos rfl] at HSUC
        go_wp2_with (at_builtin;refine wpList_app rfl (.tmp 54) (.tmp 62) 23 rfl Tryz.underlying23 HI.out.1 HI.out.2.1 HI.out.2.2.1 HI.out.2.2.2 rfl (by decide) (n:=pre.length) (xs:=ints pre) (base:=w.heap.size+1) rfl (HO6.out.alloc _) (A:=some ⟨w6.heap.size,0,none⟩) (m:=1) (c:=1) (news:=[.int .i64 (a+2+(j:Int))]) rfl (Sl.new w6 3 [.int .i64 (a+2+(j:Int))]) (by simp[Value.oneCell']) (by unfold maxLen;omega) (by omega) (Nat.le_trans HSZ6.out (by simp)) ?_;intro v7 w8 hown hgr h4;have HO8:=lh hown;have HG8:=lh hgr;have H48:=lh h4;clear hown hgr h4)
        have hVN:∀ q,v7.ownBlock=some q→q=w.heap.size+1 ∨ w2.heap.size≤q:=fun q hq=>by
         rcases H48.out with h4 | h4
         ·exact HVj.out q (h4 ▸ hq)
         ·rw[h4] at hq
          cases hq
          have:=HK6.out.size
          right
          simp
          omega
        have hK8:Kp (fun k=>k=w.heap.size+1) w2 w8:=⟨HG8.out.os.trans HK6.out.os,HG8.out.tape.trans HK6.out.tape,HG8.out.output.trans HK6.out.output,Nat.le_trans HK6.out.size (Nat.le_trans (by simp) HG8.out.size),fun k hk hn=>(HG8.out.block k (by simp;have:=HK6.out.size;omega) (fun e=>by rcases HVj.out k e.symm with h | h;exact hn h;omega)).trans ((Below.heap_alloc _ _ k (by have:=HK6.out.size;omega)).trans (HK6.out.block k hk hn))⟩
        have hG8:Bk w8 g9 58 #[.int .i64 hd.k,.int .i64 hd.c,.int .i64 hd.f]:=(HG6.out.alloc _).grown HG8.out (own_ne_type HO6.out HG6.out (by decide))
        have HVN:=lh hVN
        have HK8:=lh hK8
        have HGN:=lh hG8
        clear hVN hK8 hG8 HE6
        go_wp2_with fail
        go_roundw
        case rel=>exact⟨j+1,by go_num,by omega,lh (by rw[HSUC.out,← List.append_assoc,← HPRE.out];have:=HO8.out;simpa [ints] using this),HVN,HK8,HGN⟩
        case measure=>simp[intOf];omega
     ·obtain rfl:j=sn:=by omega
      have hge:¬ ((j:Int) < (j:Int)):=Int.lt_irrefl _
      go_wp2_with fail
      refine(cS _).mono ?_
      rintro e w5 ⟨rfl,hb5⟩
      have HK5:Hid (Kp (fun k=>k=w.heap.size+1) w2 w5):=lh (HKj.out.trans (Kp.of_below (S:=fun k=>k=w.heap.size+1) hb5) fun _ _ h=>h)
      have HO5:=lh (own_local HOj.out fun k hk=>hb5.block k (HOj.out.lt k hk).2)
      clear hb5 t0 t1 t2
      go_wp2_with fail
      go_roundw
      case rel =>
       refine⟨i+1,by go_num,by omega,lh ?_,HVj,HK5⟩
       have h1:=crS_full m (l.take i) a
       rw[HHD.out] at h1
       simp only at h1
       rw[HSN.out] at h1
       rw[HT.out,h1]
       exact HO5.out
      case measure=>simp[intOf];omega
  ·obtain rfl:i=l.length:=by omega
   have hge:¬ ((l.length:Int) < (l.length:Int)):=Int.lt_irrefl _
   go_wp2_with fail
   go_ret
   have hx:=HO.out
   rw[List.take_length,HL.out,crT_all] at hx
   exact⟨_,rfl,own_mono hx (Nat.le_succ _),HK.out.toBelow HB2.out HB2.out.size (fun k hk=>by rw[hk];exact Nat.le_succ _)⟩
end
end
section
open Go.RowKit Go.Sort Go.Shelf
attribute [local go_sem] Oper.semAt_some onlyN_normal
theorem crossing_filter (m:Mm) (p:Int→Bool):m.crossing p=(m.crossing fun _=>true).filter p:=by
 unfold Mm.crossing
 rw[List.filter_map,List.filter_filter]
 congr 1
 refine List.filter_congr fun s _=>?_
 simp only[Function.comp,Bool.and_true]
 rw[Bool.and_comm]
theorem filter_snoc {l:List Int} {i:Nat} {a:Int} (p:Int→Bool) (h:l[i]?=some a):(l.take (i+1)).filter p=(l.take i).filter p++if p a=true then [a] else []:=by
 rw[List.take_add_one,h,List.filter_append]
 congr 1
 cases hp:p a <;> simp[hp]
section
variable {w:World} {m:Mm} {A1 A2 A:Option Addr} {u1 u2 u:Nat} {cs:List Int}
set_option maxHeartbeats 8000000 in
theorem RRemembered_any (h:RM w m A1 u1 A2 u2) (hr:RC w cs A u) (hcl:cs.length≤100000) (ok:m.Ok):Calls Tryz.prog 28 #[rmV m A1 u1 A2 u2,.agg #[.slice A cs.length u]] w fun e W'=>∃ v,e=.returned v∧W'.ownsRow w.heap.size 3 1 v (m.crossing (cardIn cs)).length (ints (m.crossing (cardIn cs)))∧Below w.heap.size w W':=by
 obtain⟨i9,hi9,hi0,hi1,hi2⟩:=info_parts i_int2
 have HI:=lh (And.intro hi9 (And.intro hi0 (And.intro hi1 hi2)))
 clear hi9 hi0 hi1 hi2
 have hb0:Below w.heap.size w (((w.alloc (.cells (rmC m A1 u1 A2 u2) 35)).alloc (.cells #[.slice A cs.length u] 37)).alloc (.cells #[] 3)):=(((Below.refl _ _).alloc (Nat.le_refl _) _).alloc (by simp) _).alloc (by simp;omega) _
 have H1:=lh (h.below hb0)
 have HR1:=lh (hr.below hb0)
 have HQ1:Hid (Bk (((w.alloc (.cells (rmC m A1 u1 A2 u2) 35)).alloc (.cells #[.slice A cs.length u] 37)).alloc (.cells #[] 3)) w.heap.size 35 (rmC m A1 u1 A2 u2)):=lh (((Bk.new _ _ _).alloc _).alloc _)
 have HT1:Hid (Bk (((w.alloc (.cells (rmC m A1 u1 A2 u2) 35)).alloc (.cells #[.slice A cs.length u] 37)).alloc (.cells #[] 3)) (w.heap.size+1) 37 #[.slice A cs.length u]):=lh ((Bk.here _ _ _ (by simp)).alloc _)
 have HO1:Hid (World.ownsRow (((w.alloc (.cells (rmC m A1 u1 A2 u2) 35)).alloc (.cells #[.slice A cs.length u] 37)).alloc (.cells #[] 3)) (w.heap.size+1+1) 3 1 (.slice (some ⟨w.heap.size+1+1,0,none⟩) 0 0) 0 []):=lh (ownEmpty 1 (Bk.here _ _ _ (by simp)) (Nat.le_refl _))
 have HZ1:Hid (w.heap.size+3≤(World.heap (((w.alloc (.cells (rmC m A1 u1 A2 u2) 35)).alloc (.cells #[.slice A cs.length u] 37)).alloc (.cells #[] 3))).size):=lh (by simp)
 have HB1:=lh hb0
 have HLT:Hid (∀ b o,A1=some ⟨b,o,none⟩ ∨ A2=some ⟨b,o,none⟩→b < w.heap.size):=lh (fun b o e=>e.elim (h.o.lt b o) (h.y.lt b o))
 have HLC:Hid (∀ b o,A=some ⟨b,o,none⟩→b < w.heap.size):=lh (fun b o e=>by
  rcases hr.s.sl.2 with h0 | ⟨b2,o2,e2,hb2,_⟩
  ·have:=(hr.n (List.length_eq_zero_iff.1 h0)).1
   rw[e] at this;cases this
  ·rw[e] at e2;cases e2;exact hb2)
 have OK:=lh ok
 have HCL:=lh hcl
 have HUM:Hid (u≤maxLen):=lh hr.m
 unfold rmV
 clear h hb0 ok hr hcl
 go_enter Tryz.func28,Tryz.ntmps28
 go_upto_region 2 with fail
 generalize (((w.alloc (.cells (rmC m A1 u1 A2 u2) 35)).alloc (.cells #[.slice A cs.length u] 37)).alloc (.cells #[] 3))=w1 at *
 obtain⟨q0,q1,q2,q3,q4,q5⟩:=HQ1.out.c6
 have cW:=RCrossing_any H1.out OK.out
 unfold rmV at cW
 go_wp2_with fail
 refine cW.mono ?_
 rintro e w2 ⟨vl,rfl,hol,hb2⟩
 have H2:=lh (H1.out.below hb2)
 have HR2:=lh (HR1.out.below hb2)
 have HQ2:=lh (HQ1.out.below hb2 HQ1.out.lt)
 have HT2:=lh (HT1.out.below hb2 HT1.out.lt)
 have HO2:=lh (own_local HO1.out fun k hk=>hb2.block k (HO1.out.lt k hk).2)
 have HB2:=lh (HB1.out.trans (hb2.mono HB1.out.size))
 have HZ2:=lh (Nat.le_trans HZ1.out hb2.size)
 have HOL:=lh hol
 have HLB:Hid (∀ q,vl.ownBlock=some q→w.heap.size+3≤q):=lh (fun q hq=>Nat.le_trans HZ1.out (hol.lt q hq).1)
 obtain⟨Al,cl,rfl,hlc⟩:=own_shape hol
 obtain⟨l,hl⟩:∃ l,l=m.crossing fun _=>true:=⟨_,rfl⟩
 have hll:l.length≤536870912:=hl ▸ OK.out.crossing_len2 _
 rw[← hl] at HOL hlc ⊢
 have HL:=lh hl
 clear hb2 hol cW q0 q1 q2 q3 q4 q5 hl
 go_wp2_with fail
 go_loopw [5,7] (fun v i_ wr=>∃ (i:Nat),i_=.int .i64 (i:Int)∧i≤l.length∧Hid (wr.ownsRow (w.heap.size+1+1) 3 1 v ((l.take i).filter (cardIn cs)).length (ints ((l.take i).filter (cardIn cs))))∧Hid (∀ q,v.ownBlock=some q→q=w.heap.size+1+1 ∨ w2.heap.size≤q)∧Hid (Kp (fun k=>k=w.heap.size+1+1) w2 wr)) (fun _ i_ _=>l.length - (intOf i_).toNat)
 case atStart=>exact⟨0,rfl,Nat.zero_le _,lh (by have:=HO2.out;simpa [ints] using this),lh (fun q hq=>.inl (by cases hq;rfl)),lh (Kp.refl _ _)⟩
 case round =>
  obtain⟨i,rfl,hi,HO,HV,HK⟩:=hrel
  by_cases hlt:i < l.length
  ·have hx:l[i]?=some l[i]:=List.getElem?_eq_getElem hlt
   obtain⟨b,o,hA,hbl,hcell⟩:=(own_sl HOL.out).get hlt
   subst hA
   have hcb:=HLB.out b rfl
   have e1:wr.cell? ⟨b,o+i,none⟩=some (.int .i64 l[i]):=HK.out.cell (hcell i _ (by simp[ints,hx])) (by show b≠_;omega)
   generalize l[i]=a at *
   have hic:i < cl:=by omega
   have HSUC:=lh (filter_snoc (cardIn cs) hx)
   have hrc:=HR2.out.kp HK.out (fun b o e=>by have:=HLC.out b o e;omega)
   have HT:=lh (HT2.out.kp HK.out (show w.heap.size+1≠w.heap.size+1+1 by omega))
   have cH:=fun {w1:World} (hb:Below wr.heap.size wr w1)=>RHas_any (hrc.below hb).s (Nat.le_trans HCL.out (by decide)) HUM.out a
   have HE1:=lh e1
   have HBL:Hid (b < wr.heap.size):=lh (Nat.lt_of_lt_of_le hbl HK.out.size)
   obtain⟨pre,hpre⟩:∃ pre,pre=(l.take i).filter (cardIn cs):=⟨_,rfl⟩
   have HPRE:=lh hpre
   have hlenA:pre.length≤i:=by rw[hpre];exact Nat.le_trans (List.length_filter_le _ _) (List.length_take_le _ _)
   rw[← hpre] at HO
   have HSZ:Hid (w.heap.size+1+1≤wr.heap.size):=lh (by have:=HZ2.out;have:=HK.out.size;omega)
   clear hrc hx hcell hpre
   go_wp2_with fail
   refine wp_region_all 6 (fun i=>([[],[],[],[1,2],[3],[0,4]]:List (List Nat)).getD i []) (EL [Ent.val (.agg #[.slice A cs.length u]),Ent.val (.slice (some ⟨b,o,none⟩) l.length cl),Ent.val (.int .i64 (i:Int)),Ent.val (.pointer (some ⟨b,o+i,none⟩)),Ent.val (.int .i64 a),Ent.val (.bool (cardIn cs a))]) rfl (by kernel_rfl) (by rfl) (by kernel_rfl) (by kernel_rfl) (by rfl) ?_ ?_
   ·intro i hi o ho vs w3 hb1 hgr
    rcases (show i=0 ∨ i=1 ∨ i=2 ∨ i=3 ∨ i=4 ∨ i=5 by omega) with rfl | rfl | rfl | rfl | rfl | rfl <;> cases ho
    ·clear hgr
     change Made _ (Adds _ _ _) (Sem.run _ (execOp (Act.eval (frm _ _ _ [])) _) _)
     simp only[frm]
     have hbk:=HT.out.below hb1 HT.out.lt
     have c0:w3.cell? ⟨w.heap.size+1,0,none⟩=some (.slice A cs.length u):=hbk.cell 0
     clear hbk
     go_simp
     exact adds_val rfl
    ·clear hgr
     change Made _ (Adds _ _ _) (Sem.run _ (execOp (Act.eval (frm _ _ _ [])) _) _)
     simp only[frm]
     go_simp
     exact adds_val rfl
    ·clear hgr
     change Made _ (Adds _ _ _) (Sem.run _ (execOp (Act.eval (frm _ _ _ [])) _) _)
     simp only[frm]
     go_simp
     exact adds_val rfl
    ·have h1:vs 1=_:=hgr 1 (by decide)
     have h2:vs 2=_:=hgr 2 (by decide)
     clear hgr
     change Made _ (Adds _ _ _) (Sem.run _ (execOp (Act.eval (Act.put (Act.put (frm _ _ _ []) (some 19) (vs 2)) (some 18) (vs 1))) _) _)
     simp only[frm,h1,h2]
     go_simp
     exact adds_val rfl
    ·have h3:vs 3=_:=hgr 3 (by decide)
     clear hgr
     change Made _ (Adds _ _ _) (Sem.run _ (execOp (Act.eval (Act.put (frm _ _ _ []) (some 20) (vs 3))) _) _)
     simp only[frm,h3]
     have ce:w3.cell? ⟨b,o+i,none⟩=some (.int .i64 a):=(hb1.cell (p:=⟨b,o+i,none⟩) HBL.out).trans HE1.out
     go_simp
     exact adds_val rfl
    ·have h0:vs 0=_:=hgr 0 (by decide)
     have h4:vs 4=_:=hgr 4 (by decide)
     clear hgr
     change Made _ (Adds _ _ _) (Sem.run _ (execOp (Act.eval (Act.put (Act.put (frm _ _ _ []) (some 21) (vs 4)) (some 17) (vs 0))) _) _)
     simp only[frm,h0,h4]
     have cH:=cH hb1
     go_simp
     exact adds_below cH
   ·intro vs w3 hb1 hall hap
    have h5:vs 5=_:=(hall 5 (by omega)).1
    clear hall hap
    change wpList _ _ _ [] (Act.put (Act.put (Act.put (Act.put (Act.put (Act.put (frm _ _ _ []) (some 22) (vs 5)) (some 21) (vs 4)) (some 20) (vs 3)) (some 19) (vs 2)) (some 18) (vs 1)) (some 17) (vs 0)) _
    simp only[frm,h5]
    have HK6:Hid (Kp (fun k=>k=w.heap.size+1+1) w2 w3):=lh (HK.out.trans (Kp.of_below (S:=fun k=>k=w.heap.size+1+1) hb1) fun _ _ h=>h)
    have HO6:=lh (own_local HO.out fun k hk=>hb1.block k (HO.out.lt k hk).2)
    have HE6:w3.cell? ⟨b,o+i,none⟩=some (.int .i64 a):=(hb1.cell (p:=⟨b,o+i,none⟩) HBL.out).trans HE1.out
    have HSZ6:=lh (Nat.le_trans HSZ.out hb1.size)
    clear hb1 cH e1 h5
    cases hy:cardIn cs a with
    | false =>
     rw[hy,if_neg (by decide)] at HSUC
     go_wp2_with fail
     go_roundw
     case rel=>exact⟨i+1,by go_num,by omega,lh (by rw[HSUC.out,List.append_nil,← HPRE.out];exact HO6.out),HV,HK6⟩
     case measure=>simp[intOf];omega
    | true =>
     rw[hy,if_pos rfl] at HSUC
     go_wp2_with (at_builtin;refine wpList_app rfl (.tmp 23) (.tmp 28) 23 rfl Tryz.underlying23 HI.out.1 HI.out.2.1 HI.out.2.2.1 HI.out.2.2.2 rfl (by decide) (n:=pre.length) (xs:=ints pre) (base:=w.heap.size+1+1) rfl (HO6.out.alloc _) (A:=some ⟨w3.heap.size,0,none⟩) (m:=1) (c:=1) (news:=[.int .i64 a]) rfl (Sl.new w3 3 [.int .i64 a]) (by simp[Value.oneCell']) (by unfold maxLen;omega) (by omega) (Nat.le_trans HSZ6.out (by simp)) ?_;intro v7 w8 hown hgr h4;have HO8:=lh hown;have HG8:=lh hgr;have H48:=lh h4;clear hown hgr h4)
     have hVN:∀ q,v7.ownBlock=some q→q=w.heap.size+1+1 ∨ w2.heap.size≤q:=fun q hq=>by
      rcases H48.out with h4 | h4
      ·exact HV.out q (h4 ▸ hq)
      ·rw[h4] at hq
       cases hq
       have:=HK6.out.size
       right
       simp
       omega
     have hK8:Kp (fun k=>k=w.heap.size+1+1) w2 w8:=⟨HG8.out.os.trans HK6.out.os,HG8.out.tape.trans HK6.out.tape,HG8.out.output.trans HK6.out.output,Nat.le_trans HK6.out.size (Nat.le_trans (by simp) HG8.out.size),fun k hk hn=>(HG8.out.block k (by simp;have:=HK6.out.size;omega) (fun e=>by rcases HV.out k e.symm with h | h;exact hn h;omega)).trans ((Below.heap_alloc _ _ k (by have:=HK6.out.size;omega)).trans (HK6.out.block k hk hn))⟩
     have HVN:=lh hVN
     have HK8:=lh hK8
     clear hVN hK8 HE6
     go_wp2_with fail
     go_roundw
     case rel=>exact⟨i+1,by go_num,by omega,lh (by rw[HSUC.out,← HPRE.out];have:=HO8.out;simpa [ints] using this),HVN,HK8⟩
     case measure=>simp[intOf];omega
  ·obtain rfl:i=l.length:=by omega
   have hge:¬ ((l.length:Int) < (l.length:Int)):=Int.lt_irrefl _
   go_wp2_with fail
   go_ret
   have hx:=HO.out
   rw[List.take_length,HL.out,← crossing_filter] at hx
   exact⟨_,rfl,own_mono hx (by omega),HK.out.toBelow HB2.out HB2.out.size (fun k hk=>by rw[hk];omega)⟩
end
end
end Go.Proofs.YtaijmgkjbbiboaaGreat
