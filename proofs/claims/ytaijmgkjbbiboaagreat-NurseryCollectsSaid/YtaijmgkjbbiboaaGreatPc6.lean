/- Parts of the proof: Fwd, MarkP, AlcP. -/
import Derived.Deep.LoopGhost
import Derived.Test.YtaijmgkjbbiboaaGreatPcA
import Derived.Test.YtaijmgkjbbiboaaGreatPc0
import Derived.Test.YtaijmgkjbbiboaaGreatPc5
set_option linter.unusedVariables false
set_option linter.unusedSimpArgs false
set_option linter.unusedSectionVars false
set_option maxRecDepth 100000
namespace Go.Proofs.YtaijmgkjbbiboaaGreat
section
theorem nodup_len:∀ (l all:List Int),l.Nodup→(∀ x∈l,x∈all)→l.length≤all.length
 | [],_,_,_=>Nat.zero_le _
 | x::l,all,hd,h=>by
  have hx:=h x (List.mem_cons_self ..)
  obtain⟨h1,h2⟩:=List.nodup_cons.1 hd
  have:=nodup_len l (all.erase x) h2 fun y hy=>by
   have hne:y≠x:=fun e=>h1 (e ▸ hy)
   exact(List.mem_erase_of_ne hne).2 (h y (List.mem_cons_of_mem _ hy))
  rw[List.length_erase_of_mem hx] at this
  have h3:0 < all.length:=List.length_pos_of_mem hx
  simp only[List.length_cons]
  omega
def Mm.Led (m:Mm):List Int→Int→Prop
 | [],_=>True
 | b::s,a=>m.nxt b=some (some a)∧m.Led s b
theorem Mm.Led.next {m:Mm}:∀ {s:List Int} {a:Int},m.Led s a→∀ y∈s,∃ z,m.nxt y=some (some z)∧(z=a ∨ z∈s)
 | [],_,_,y,hy=>by cases hy
 | b::s,a,⟨h1,h2⟩,y,hy=>by
  rcases List.mem_cons.1 hy with rfl | hy
  ·exact⟨a,h1,.inl rfl⟩
  ·obtain⟨z,hz,h3⟩:=Mm.Led.next h2 y hy
   refine⟨z,hz,.inr ?_⟩
   rcases h3 with rfl | h3
   ·exact List.mem_cons_self ..
   ·exact List.mem_cons_of_mem _ h3
theorem Mm.Led.cycle {m:Mm} {s:List Int} {a:Int} (h:m.Led s a) (ha:a∈s):∀ k,∀ y∈s,m.resN k y=none
 | 0,_,_=>rfl
 | k+1,y,hy=>by
  obtain⟨z,hz,h3⟩:=h.next y hy
  have:z∈s:=by
   rcases h3 with rfl | h3
   ·exact ha
   ·exact h3
  unfold Mm.resN
  rw[hz]
  exact h.cycle ha k z this
structure ResI (m:Mm) (a0 a:Int) (s:List Int):Prop where
 led:m.Led s a
 nd:s.Nodup
 has:∀ y∈s,m.has y=true
 eq:m.resN (m.size+1) a0=m.resN (m.size+1 - s.length) a
theorem ResI.new (m:Mm) (a:Int):ResI m a a []:=⟨trivial,List.nodup_nil,fun y hy=>(List.not_mem_nil hy).elim,rfl⟩
theorem Mm.all_has (m:Mm) (y:Int) (h:m.has y=true):y∈(List.range m.old.ws.length).map (fun i:Nat=>m.old.base+(i:Int))++(List.range m.yng.ws.length).map (fun i:Nat=>m.yng.base+(i:Int)):=by
 unfold Mm.has Mm.sp at h
 rw[List.mem_append]
 by_cases ho:m.old.has y=true
 ·have:=Spc.has_iff.1 ho
  exact .inl (List.mem_map.2 ⟨(y - m.old.base).toNat,List.mem_range.2 (by omega),by omega⟩)
 ·rw[if_neg ho] at h
  have:=Spc.has_iff.1 h
  exact .inr (List.mem_map.2 ⟨(y - m.yng.base).toNat,List.mem_range.2 (by omega),by omega⟩)
section
variable {m:Mm} {a0 a b:Int} {s:List Int}
theorem ResI.len (h:ResI m a0 a s):s.length≤m.size:=by
 have:=nodup_len s _ h.nd fun y hy=>m.all_has y (h.has y hy)
 simpa [Mm.size] using this
theorem ResI.seen (h:ResI m a0 a s) (ha:a∈s):m.resN (m.size+1) a0=none:=by
 rw[h.eq]
 exact h.led.cycle ha _ a ha
theorem ResI.stop (h:ResI m a0 a s):m.resN (m.size+1) a0=match m.nxt a with
  | none=>none
  | some none=>some a
  | some (some b)=>m.resN (m.size+1 - (s.length+1)) b:=by
 have:=h.len
 rw[h.eq,show m.size+1 - s.length=(m.size+1 - (s.length+1))+1 by omega]
 conv=>lhs;unfold Mm.resN
 rcases m.nxt a with _ | _ | _ <;> rfl
theorem Mm.nxt_has (h:m.nxt a=some (some b)):m.has a=true:=by
 unfold Mm.nxt at h
 split at h
 ·cases h
 ·rename_i h0
  have h0:(m.hdr a).1=0:=Decidable.not_not.1 h0
  have:=Mm.has_of_hdr h0 (j:=0) (Int.le_refl 0) (by have:=wH_ge (Mm.hdr_valid h0);omega)
  rwa [Int.add_zero] at this
theorem ResI.next (h:ResI m a0 a s) (ha:a ∉ s) (hn:m.nxt a=some (some b)):ResI m a0 b (a::s):=by
 refine⟨⟨hn,h.led⟩,List.nodup_cons.2 ⟨ha,h.nd⟩,fun y hy=>?_,?_⟩
 ·rcases List.mem_cons.1 hy with rfl | hy
  ·exact Mm.nxt_has hn
  ·exact h.has y hy
 ·have:=h.stop
  rw[hn] at this
  exact this
end
end
section
open Go.RowKit
section
variable {w:World} {B g1 g2:Nat} {V1 V2:Value} {m:Mm}
end
end
section
open Go.RowKit
theorem Sl.kpN {S:Nat→Prop} {w w':World} {k n:Nat} {A:Option Addr} {xs:List Value} (h:Sl w k A n xs) (hk:Kp S w w') (hn:∀ b o,A=some ⟨b,o,none⟩→¬ S b):Sl w' k A n xs:=by
 refine⟨h.1,?_⟩
 rcases h.2 with h0 | ⟨b,o,e,hb,hc⟩
 ·exact .inl h0
 ·refine .inr ⟨b,o,e,Nat.lt_of_lt_of_le hb hk.size,fun j x hx=>?_⟩
  rw[← hc j x hx]
  exact World.cell?_of_block (hk.block b hb (hn b o e))
section
variable {w:World} {B g1 g2:Nat} {V1 V2:Value} {m:Mm}
end
end
section
open Go.RowKit
section
variable {w:World} {B g1 g2:Nat} {V1 V2:Value} {m:Mm}
end
end
section
open Go.RowKit
theorem fresh_contains (x:Int) (s:List Int) (y:Int):insB (fun z=>s.contains z) x y=(x::s).contains y:=by
 unfold insB
 by_cases h:y=x <;> simp[h]
theorem Mm.nxt_err {m:Mm} {a:Int} (h:(m.hdr a).1≠0):m.nxt a=none:=by unfold Mm.nxt;rw[if_pos h]
theorem Mm.nxt_end {m:Mm} {a:Int} (h:(m.hdr a).1=0) (hk:(m.hdr a).2.k≠4):m.nxt a=some none:=by unfold Mm.nxt;rw[if_neg (by simp[h]),if_pos hk]
theorem Mm.nxt_fwd {m:Mm} {a:Int} (ok:m.Ok) (h:(m.hdr a).1=0) (hk:(m.hdr a).2.k=4):∃ x,m.at_ (a+2)=some x∧m.nxt a=match adr x with | some b=>some (some b) | none=>none:=by
 obtain⟨x,hx⟩:∃ x,m.at_ (a+2)=some x:=by
  obtain⟨h1,_⟩:=ok.has_near h (j:=2) (by decide) (by have:=wH_ge (Mm.hdr_valid h);omega)
  obtain⟨_,_,_,x,_,hx⟩:=Spc.at_some h1
  exact⟨x,hx⟩
 refine⟨x,hx,?_⟩
 unfold Mm.nxt
 rw[if_neg (by simp[h]),if_neg (by simp[hk]),hx]
 rfl
theorem Mm.res_has {m:Mm} {a:Int} (ok:m.Ok) (h:m.has a=true):0≤a∧a≤4294967296:=by
 unfold Mm.has Mm.sp at h
 split at h
 ·have:=ok.old_lt h;omega
 ·have:=ok.yng_ge h;omega
def rsv:Option Int→Int × Int
 | some b=>(b,0)
 | none=>(0,11)
theorem Mm.resolve_eq (m:Mm) (a:Int):m.resolve a=if m.has a=false then (0,2) else rsv (m.resN (m.size+1) a):=by
 unfold Mm.resolve rsv
 rfl
section
variable {w:World} {B g1 g2:Nat} {V1 V2:Value} {m:Mm}
set_option maxHeartbeats 4000000 in
theorem MResolve_any (h:MR w B g1 g2 V1 V2 m) (a:Int):Calls Tryz.prog 65 #[memV g1 g2,.int .i64 a] w fun e w'=>e=.returned (.tuple #[.int .i64 (m.resolve a).1,.int .i64 (m.resolve a).2])∧Below w.heap.size w w':=by
 have hb0:=boxM w g1 g2
 have H0:=lh (h.below hb0)
 have HQ0:Hid (Bk (w.alloc (.cells #[.pointer (some ⟨g1,0,none⟩),.pointer (some ⟨g2,0,none⟩)] 29)) w.heap.size 29 #[.pointer (some ⟨g1,0,none⟩),.pointer (some ⟨g2,0,none⟩)]):=lh (Bk.here _ _ _ rfl)
 have HB0:=lh hb0
 have OK:=lh h.ok
 have cL:=MLoad_any H0.out a
 rw[Mm.resolve_eq]
 unfold memV at cL ⊢
 cases hh:m.has a with
 | false =>
  rw[show m.at_ a=none from Spc.at_none hh] at cL
  unfold atV at cL
  rw[if_pos rfl]
  clear h hb0 hh
  go_enter Tryz.func65,Tryz.ntmps65
  go_wp2_with fail
  refine cL.mono ?_
  rintro e w1 ⟨rfl,hb⟩
  have HB1:=lh (HB0.out.trans (hb.mono HB0.out.size))
  clear hb cL
  go_wp2_with fail
  go_ret2
  exact⟨rfl,HB1.out⟩
 | true =>
  obtain⟨x0,hx0⟩:∃ x,m.at_ a=some x:=by
   obtain⟨_,_,_,x,_,hx⟩:=Spc.at_some hh
   exact⟨x,hx⟩
  rw[hx0] at cL
  unfold atV at cL
  rw[if_neg (by decide)]
  have HAB:=lh (Mm.res_has h.ok hh)
  clear h hb0 hx0
  have HH:=lh hh
  clear hh
  obtain⟨N,hN⟩:∃ N,N=m.size+1:=⟨_,rfl⟩
  have HN:=lh hN
  rw[← hN]
  obtain⟨p,q,hp⟩:∃ p q,rsv (m.resN N a)=(p,q):=⟨_,_,rfl⟩
  have HP:=lh hp
  rw[hp]
  simp only
  clear hp hN
  have hmm:=@run_makeMap Tryz.prog
  go_enter Tryz.func65,Tryz.ntmps65
  go_wp2_with fail
  generalize w.alloc (.cells #[.pointer (some ⟨g1,0,none⟩),.pointer (some ⟨g2,0,none⟩)] 29)=w0 at *
  refine cL.mono ?_
  rintro e w1 ⟨rfl,hb⟩
  have H1:=lh (H0.out.below hb)
  have HQ1:=lh (HQ0.out.below hb HQ0.out.lt)
  have HB1:=lh (HB0.out.trans (hb.mono HB0.out.size))
  clear hb cL
  go_wp2_with fail
  have hbm:Below w1.heap.size w1 (w1.alloc (.map #[] 0)):=(Below.refl _ _).alloc (Nat.le_refl _) _
  have H2:=lh (H1.out.below hbm)
  have HQ2:=lh (HQ1.out.below hbm HQ1.out.lt)
  have HB2:=lh (HB1.out.trans (hbm.mono HB1.out.size))
  have HM2:Hid (MapT Tryz.prog 3 4 (w1.alloc (.map #[] 0)) w1.heap.size 0 (fun _=>false)):=lh (MapT.made _ _ _ _)
  have HBB:Hid (w.heap.size≤w1.heap.size):=lh (HB1.out.size)
  have HF:Hid (g1≠w1.heap.size∧g2≠w1.heap.size∧V1.ownBlock≠some w1.heap.size∧V2.ownBlock≠some w1.heap.size∧w.heap.size≠w1.heap.size):=lh ⟨Nat.ne_of_lt H1.out.o.hd.lt,Nat.ne_of_lt H1.out.y.hd.lt,fun e=>absurd (H1.out.o.own.lt _ e).2 (Nat.lt_irrefl _),fun e=>absurd (H1.out.y.own.lt _ e).2 (Nat.lt_irrefl _),Nat.ne_of_lt HQ1.out.lt⟩
  clear hbm
  generalize w1.alloc (.map #[] 0)=w2 at *
  generalize w1.heap.size=bm at HM2 HBB HF ⊢
  go_loopg [1] (N) (fun gq a_ wr=>∃ (a':Int) (s:List Int),a_=.int .i64 a'∧s.length+gq=N∧(0≤a'∧a'≤4294967296)∧Hid (ResI m a a' s)∧Hid (MapT Tryz.prog 3 4 wr bm s.length (fun x=>s.contains x))∧Hid (MR wr B g1 g2 V1 V2 m)∧Hid (Bk wr w.heap.size 29 #[.pointer (some ⟨g1,0,none⟩),.pointer (some ⟨g2,0,none⟩)])∧Hid (Below w.heap.size w wr))
  case atStart=>exact⟨a,[],rfl,by simp,HAB.out,lh (ResI.new m a),HM2,H2,HQ2,HB2⟩
  case round =>
   obtain⟨a',s,rfl,hs,ha',HR,HM,HMR,HQ,HB⟩:=hrel
   have q0:wr.cell? ⟨w.heap.size,0,none⟩=some (.pointer (some ⟨g1,0,none⟩)):=HQ.out.cell 0
   have q1:wr.cell? ⟨w.heap.size,1,none⟩=some (.pointer (some ⟨g2,0,none⟩)):=HQ.out.cell 1
   have hl:=HM.out.look Tryz.underlying3 Tryz.underlying4 Tryz.underlying127 zero_bool (x:=a') (WalkArith.wf_i64 (by omega))
   have hlen:=HR.out.len
   have HW:Hid ((Lit.int .i64 a').wf=true):=lh (WalkArith.wf_i64 (by omega))
   by_cases hc:a'∈s
   ·rw[show s.contains a'=true by simpa using hc] at hl
    have hp:=HP.out
    rw[HN.out,HR.out.seen hc] at hp
    cases hp
    go_wp2_with fail
    go_ret2
    exact⟨rfl,HB.out⟩
   ·rw[show s.contains a'=false by simpa using hc] at hl
    have HC:=lh hc
    have HST:=lh HR.out.stop
    cases gk with
    | zero=>have:=HN.out;omega
    | succ gj =>
    have hsl:s.length≤8589934592:=by
     have h1:=OK.out.o.lim;have h2:=OK.out.o.l0;have h3:=OK.out.y.lim;have h4:=OK.out.y.l0;have h5:=OK.out.o.b0;have h6:=OK.out.y.b0
     unfold Mm.size at hlen
     omega
    clear hc hlen
    go_wp2_with (refine wpList_set_put Tryz.underlying3 Tryz.underlying4 Tryz.underlying127 rfl (m:=.tmp 29) (x:=.tmp 30) (v:=.const (.bool true)) rfl HM.out (by unfold maxLen;omega) rfl rfl rfl HW.out ?_;intro w3 hm3 hg3;have HM3:=lh hm3;have HG3:=lh hg3;have hK3:Kp (fun k=>k=bm) wr w3:=Kp.of_grown hg3 (fun k hk=>(Option.some.inj hk).symm);have HK3:=lh hK3;have q0':w3.cell? ⟨w.heap.size,0,none⟩=some (.pointer (some ⟨g1,0,none⟩)):=hK3.cell q0 HF.out.2.2.2.2;have q1':w3.cell? ⟨w.heap.size,1,none⟩=some (.pointer (some ⟨g2,0,none⟩)):=hK3.cell q1 HF.out.2.2.2.2;clear hm3 hg3 hK3 q0 q1)
    have HMR3:Hid (MR w3 B g1 g2 V1 V2 m):=lh ⟨HMR.out.o.kp HK3.out HF.out.1 (fun k hk e=>HF.out.2.2.1 (e ▸ hk)),HMR.out.y.kp HK3.out HF.out.2.1 (fun k hk e=>HF.out.2.2.2.1 (e ▸ hk)),HMR.out.ok,HMR.out.gg,HMR.out.vv⟩
    have HQ3:=lh (HQ.out.kp HK3.out HF.out.2.2.2.2)
    have HB3:=lh (HK3.out.toBelow HB.out HB.out.size (fun k hk=>by rw[hk];exact HBB.out))
    have HMM3:=lh (HM3.out.congr fun x _=>fresh_contains a' s x)
    clear HMR HQ HB HM HM3 HG3
    have cH:=MHeader_any HMR3.out a'
    unfold hdrV Hdr.val memV at cH
    obtain⟨er,hd,hhd⟩:∃ er hd,m.hdr a'=(er,hd):=⟨_,_,rfl⟩
    rw[hhd] at cH
    simp only at cH
    have HHD:=lh hhd
    clear hhd
    by_cases he:er=0
    ·subst he
     by_cases hk:hd.k=4
     ·obtain⟨x,hx,hnx⟩:=Mm.nxt_fwd OK.out (a:=a') (by rw[HHD.out]) (by rw[HHD.out];exact hk)
      have heq:(hd.k != 4)=false:=by simp[hk]
      have HK:=lh hk
      have HX:=lh hx
      have HNX:=lh hnx
      have cA:=fun w=>Address_any (OK.out.at_u hx) w
      unfold adrV at cA
      clear hk hx hnx
      refine cH.mono ?_
      rintro e w4 ⟨rfl,hb⟩
      have HB4:=lh (HB3.out.trans (hb.mono HB3.out.size))
      have HMR4:=lh (HMR3.out.below hb)
      have HQ4:=lh (HQ3.out.below hb HQ3.out.lt)
      have HMM4:=lh (HMM3.out.block (hb.block bm HMM3.out.lt))
      have hlt4:w.heap.size < w4.heap.size:=HQ4.out.lt
      have hne4:w.heap.size≠w4.heap.size:=by omega
      have q2:w4.cell? ⟨w.heap.size,0,none⟩=some (.pointer (some ⟨g1,0,none⟩)):=HQ4.out.cell 0
      have q3:w4.cell? ⟨w.heap.size,1,none⟩=some (.pointer (some ⟨g2,0,none⟩)):=HQ4.out.cell 1
      clear hb cH q0' q1'
      go_wp2_with fail
      have hb5:Below w4.heap.size w4 (w4.alloc (.cells #[.int .i64 hd.k,.int .i64 hd.c,.int .i64 hd.f] 58)):=(Below.refl _ _).alloc (Nat.le_refl _) _
      have HB5:=lh (HB4.out.trans (hb5.mono HB4.out.size))
      have HMR5:=lh (HMR4.out.below hb5)
      have HQ5:=lh (HQ4.out.below hb5 HQ4.out.lt)
      have HMM5:=lh (HMM4.out.block (hb5.block bm HMM4.out.lt))
      clear hb5 q2 q3
      generalize w4.alloc (.cells #[.int .i64 hd.k,.int .i64 hd.c,.int .i64 hd.f] 58)=w5 at *
      have cL:=MLoad_any HMR5.out (a'+2)
      rw[HX.out] at cL
      unfold atV memV at cL
      refine cL.mono ?_
      rintro e w6 ⟨rfl,hb⟩
      have HB6:=lh (HB5.out.trans (hb.mono HB5.out.size))
      have HMR6:=lh (HMR5.out.below hb)
      have HQ6:=lh (HQ5.out.below hb HQ5.out.lt)
      have HMM6:=lh (HMM5.out.block (hb.block bm HMM5.out.lt))
      clear hb cL
      go_wp2_with fail
      refine(cA _).mono ?_
      rintro e w7 ⟨rfl,rfl⟩
      cases had:adr x with
      | none =>
       have hp:=HP.out
       rw[HN.out,HST.out,HNX.out,had] at hp
       cases hp
       clear had cA
       go_wp2_with fail
       go_ret2
       exact⟨rfl,HB6.out⟩
      | some b =>
       have hb1:=adr_some had
       have hb2:=OK.out.at_u HX.out
       have hnn:m.nxt a'=some (some b):=by rw[HNX.out,had]
       have hbd:0≤b∧b≤4294967296:=by unfold adW at hb1;unfold U64 at hb2;omega
       have HR':=lh (HR.out.next HC.out hnn)
       clear had cA hb1 hb2 hnn
       go_wp2_with fail
       go_roundg gj
       case rel=>exact⟨b,a'::s,rfl,by simp;omega,hbd,HR',HMM6,HMR6,HQ6,HB6⟩
       case measure=>exact Nat.lt_succ_self _
     ·have hne:(hd.k != 4)=true:=by simp[hk]
      have hp:=HP.out
      rw[HN.out,HST.out,Mm.nxt_end (by rw[HHD.out]) (by rw[HHD.out];exact hk)] at hp
      cases hp
      clear hk
      refine cH.mono ?_
      rintro e w4 ⟨rfl,hb⟩
      have HB4:=lh (HB3.out.trans (hb.mono HB3.out.size))
      clear hb cH
      go_wp2_with fail
      go_ret2
      exact⟨rfl,HB4.out.trans (((Below.refl _ _).alloc (Nat.le_refl _) _).mono HB4.out.size)⟩
    ·have he1:(er == 0)=false:=by simp[he]
     have he2:(er != 0)=true:=by simp[he]
     have hp:=HP.out
     rw[HN.out,HST.out,Mm.nxt_err (by rw[HHD.out];exact he)] at hp
     cases hp
     clear he
     refine cH.mono ?_
     rintro e w4 ⟨rfl,hb⟩
     have HB4:=lh (HB3.out.trans (hb.mono HB3.out.size))
     clear hb cH
     go_wp2_with fail
     go_ret2
     exact⟨rfl,HB4.out.trans (((Below.refl _ _).alloc (Nat.le_refl _) _).mono HB4.out.size)⟩
theorem Mm.resolve_has {m:Mm} {a:Int} (ok:m.Ok) (h:(m.resolve a).2=0):0≤a∧a≤4294967295:=by
 rw[Mm.resolve_eq] at h
 cases hh:m.has a with
 | false=>rw[hh,if_pos rfl] at h;cases h
 | true =>
  unfold Mm.has Mm.sp at hh
  split at hh
  ·have:=ok.old_lt hh;omega
  ·have:=ok.yng_ge hh;omega
end
end
section
/-- what a word refers to: none if it is an address without a resolution, some none if it is no address -/
def Mm.rfr (m:Mm) (x:Int):Option (Option Int):=match adr x with
 | none=>some none
 | some a=>if (m.resolve a).2=0 then some (some (m.resolve a).1) else none
def Mm.fuel (m:Mm) (k:List Int × List Int):Nat:=2*(m.size - k.2.length)+k.1.length
theorem Mm.resN_nxt (m:Mm):∀ (f:Nat) (a b:Int),m.resN f a=some b→m.nxt b=some none
 | 0,a,b,h=>by cases h
 | f+1,a,b,h=>by
  unfold Mm.resN at h
  split at h
  ·cases h
  ·rename_i h1;cases h;exact h1
  ·exact Mm.resN_nxt m f _ _ h
theorem Mm.nxt_none {m:Mm} {a:Int} (h:m.nxt a=some none):(m.hdr a).1=0∧(m.hdr a).2.k≠4:=by
 unfold Mm.nxt at h
 split at h
 ·cases h
 ·rename_i h0
  split at h
  ·rename_i h1;exact⟨by omega,h1⟩
  ·split at h <;> cases h
theorem Mm.rfr_hdr {m:Mm} {x a:Int} (h:m.rfr x=some (some a)):(m.hdr a).1=0∧(m.hdr a).2.k≠4:=by
 unfold Mm.rfr at h
 split at h
 ·cases h
 ·split at h
  ·rename_i b hb h0
   cases h
   unfold Mm.resolve at h0 ⊢
   split at h0
   ·cases h0
   ·rename_i h1
    rw[if_neg h1]
    split at h0
    ·rename_i c hc
     exact Mm.nxt_none (m.resN_nxt _ _ _ hc)
    ·cases h0
  ·cases h
structure Mm.MkI (m:Mm) (k:List Int × List Int):Prop where
 nd:k.2.Nodup
 sn:k.1.Nodup
 sub:∀ a∈k.1,a∈k.2
 ok:∀ a∈k.2,(m.hdr a).1=0∧(m.hdr a).2.k≠4
theorem nodup_snoc {l:List Int} {a:Int} (h:l.Nodup) (ha:a ∉ l):(l++[a]).Nodup:=by
 rw[List.nodup_append]
 exact⟨h,List.nodup_cons.2 ⟨by simp,List.nodup_nil⟩,fun x hx y hy e=>by rw[List.mem_singleton.1 hy] at e;exact ha (e ▸ hx)⟩
/-- what a visit leaves: more marks, all of them on the stack, and enough room for them -/
structure Mm.Vis (m:Mm) (k k':List Int × List Int):Prop where
 ki:m.MkI k'
 grow:∀ a∈k.2,a∈k'.2
 stk:∀ a∈k.1,a∈k'.1
 new:∀ a∈k'.2,a∈k.2 ∨ a∈k'.1
 fuel:m.fuel k'≤m.fuel k
theorem Mm.Vis.trans {m:Mm} {k k1 k2:List Int × List Int} (h:m.Vis k k1) (h':m.Vis k1 k2):m.Vis k k2 :=
 ⟨h'.ki,fun a ha=>h'.grow a (h.grow a ha),fun a ha=>h'.stk a (h.stk a ha),fun a ha=>(h'.new a ha).elim (fun h1=>(h.new a h1).elim .inl fun h2=>.inr (h'.stk a h2)) .inr,Nat.le_trans h'.fuel h.fuel⟩
end
section
def frW (a:Int):Int:=if inA a=true then adW a else 0
theorem frW_u (a:Int):U64 (frW a):=by
 unfold frW inA adW U64
 split
 ·rename_i h;simp only[decide_eq_true_eq] at h;omega
 ·omega
theorem Spc.alloc_cases (s:Spc) (h:Hdr) (i:Id):((s.alloc h i).1≠0∧(s.alloc h i).2.1=s) ∨ (vH h=true∧vI i=true∧wH h≤s.limit - s.top∧s.alloc h i=(0,{ s with ws:=s.ws++([eH h,eI i]++List.replicate (wH h - 2).toNat 0) },s.top)):=by
 by_cases h1:vH h=false ∨ vI i=false
 ·left;unfold Spc.alloc;rw[if_pos h1];exact⟨show(1:Int)≠0 by decide,rfl⟩
 ·by_cases h2:wH h > s.limit - s.top
  ·left;unfold Spc.alloc;rw[if_neg h1,if_pos h2];exact⟨show(8:Int)≠0 by decide,rfl⟩
  ·right
   have h3:=not_or.1 h1
   refine⟨by simpa using h3.1,by simpa using h3.2,by omega,?_⟩
   unfold Spc.alloc
   rw[if_neg h1,if_neg h2]
theorem Spc.Ok.alloc {s:Spc} (h:s.Ok) (hd:Hdr) (i:Id):(s.alloc hd i).2.1.Ok∧(s.alloc hd i).2.1.base=s.base∧(s.alloc hd i).2.1.limit=s.limit:=by
 rcases s.alloc_cases hd i with ⟨_,h1⟩ | ⟨hv,hi,hl,h1⟩
 ·rw[h1];exact⟨h,rfl,rfl⟩
 ·rw[h1]
  have hw:=wH_ge hv
  refine⟨⟨fun x hx=>?_,h.b0,?_,h.l0⟩,rfl,rfl⟩
  ·simp only[List.mem_append,List.mem_cons,List.not_mem_nil,or_false,List.mem_replicate] at hx
   rcases hx with hx | (rfl | rfl) | ⟨_,rfl⟩
   ·exact h.u x hx
   ·exact eH_u64 hv
   ·exact eI_u64 hi
   ·exact⟨by decide,by decide⟩
  ·have:=h.lim
   unfold Spc.top at hl
   simp only[List.length_append,List.length_cons,List.length_nil,List.length_replicate]
   push_cast
   omega
theorem Mm.Ok.alloc {m:Mm} (h:m.Ok) (y:Bool) (hd:Hdr) (i:Id):(m.alloc y hd i).2.1.Ok:=by
 unfold Mm.alloc
 split
 ·have:=h.y.alloc hd i
  exact⟨h.o,this.1,h.ob,h.ol,this.2.1.trans h.yb⟩
 ·have:=h.o.alloc hd i
  exact⟨this.1,h.y,this.2.1.trans h.ob,by show(m.old.alloc hd i).2.1.limit≤_;rw[this.2.2];exact h.ol,h.yb⟩
end
end Go.Proofs.YtaijmgkjbbiboaaGreat
