/- Parts of the proof: NurB. -/
import Derived.Laws.EntriesVeiled
import Derived.StillTailTactics
import Derived.Test.YtaijmgkjbbiboaaGreatPcA
import Derived.Test.YtaijmgkjbbiboaaGreatPc19
import Derived.Test.YtaijmgkjbbiboaaGreatPc22
set_option linter.unusedVariables false
set_option linter.unusedSimpArgs false
set_option linter.unusedSectionVars false
set_option maxRecDepth 100000
namespace Go.Proofs.YtaijmgkjbbiboaaGreat
section
open Go.RowKit Go.Maps
attribute [local go_sem] Oper.semAt_some
theorem MapT.neB {P:Program} {k e t:TypeId} {w:World} {b n g:Nat} {f:Int→Bool} {cs:Array Value} (h:MapT P k e w b n f) (hk:Bk w g t cs):g≠b:=fun e=>by
 subst e
 obtain⟨D,⟨es,clock,h1,_⟩,_⟩:=h
 unfold Bk at hk
 rw[h1] at hk
 cases hk
theorem MapT.neO {P:Program} {k e t:TypeId} {w:World} {b n B s m:Nat} {f:Int→Bool} {V:Value} {xs:List Value} (h:MapT P k e w b n f) (hl:w.ownsRow B t s V m xs):V.ownBlock≠some b:=fun he=>by
 obtain⟨_,⟨rfl,_⟩ | ⟨g',cap,cur,rfl,_,h4,_⟩⟩:=hl
 ·cases he
 ·injection he with he;exact h.neB (show Bk w g' _ cur from h4) he
/-- the world of the closure look -/
structure OrW (w:World) (B B1 Nm Ns Nb Nl bk n g1 gy:Nat) (V1 V2:Value) (m:Mm) (p:List Int × Bool):Prop where
 bm:Bk w Nm 29 #[.pointer (some ⟨g1,0,none⟩),.pointer (some ⟨gy,0,none⟩)]
 bs:Bk w Ns 127 #[.map (some bk)]
 bb:Bk w Nb 4 #[.bool p.2]
 mr:MR w B1 g1 gy V1 V2 m
 mp:MapT Tryz.prog 3 4 w bk n (fun x=>p.1.contains x)
 bl:∃ v,Bk w Nl 23 #[v]∧w.ownsRow B 3 1 v p.1.length (ints p.1)
 ge:B≤Nm∧B≤Ns∧B≤Nb∧B≤Nl∧B≤bk
 oi:m.OrdI p.1
 nn:n≤p.1.length
section
variable {w w':World} {B B1 Nm Ns Nb Nl bk n g1 gy:Nat} {V1 V2:Value} {m:Mm} {p:List Int × Bool}
theorem OrW.below (h:OrW w B B1 Nm Ns Nb Nl bk n g1 gy V1 V2 m p) (hb:Below w.heap.size w w'):OrW w' B B1 Nm Ns Nb Nl bk n g1 gy V1 V2 m p :=
 ⟨h.bm.below hb h.bm.lt,h.bs.below hb h.bs.lt,h.bb.below hb h.bb.lt,h.mr.below hb,h.mp.block (hb.block _ h.mp.lt),let ⟨v,h1,h2⟩:=h.bl;⟨v,h1.below hb h1.lt,own_local h2 fun q hq=>hb.block q (h2.lt q hq).2⟩,h.ge,h.oi,h.nn⟩
theorem OrW.nlLt (h:OrW w B B1 Nm Ns Nb Nl bk n g1 gy V1 V2 m p):Nl < w.heap.size:=let ⟨_,h1,_⟩:=h.bl;h1.lt
theorem OrW.nlN (h:OrW w B B1 Nm Ns Nb Nl bk n g1 gy V1 V2 m p):Nl≠Nb∧Nl≠bk:=let ⟨_,h1,_⟩:=h.bl;⟨h1.neT h.bb (by decide),h.mp.neB h1⟩
theorem MR.kpN {S:Nat→Prop} (h:MR w B g1 gy V1 V2 m) (hk:Kp S w w') (h1:∀ {q:Nat} {t:TypeId} {cs:Array Value},Bk w q t cs→t=123 ∨ t=54→¬ S q):MR w' B g1 gy V1 V2 m:=by
 have ow:∀ {V:Value} {g:Nat} {s:Spc},SpR w B g s V→∀ q,V.ownBlock=some q→¬ S q:=fun hs q hq=>by
  obtain⟨_,⟨rfl,_⟩ | ⟨g',cap,cur,rfl,_,h4,_⟩⟩:=hs.own
  ·cases hq
  ·injection hq with hq
   subst hq
   exact h1 (show Bk w _ 54 cur from h4) (.inr rfl)
 exact⟨h.o.kp hk (h1 h.o.hd (.inl rfl)) (ow h.o),h.y.kp hk (h1 h.y.hd (.inl rfl)) (ow h.y),h.ok,h.gg,h.vv⟩
/-- the word is dangling, or not -/
theorem OrW.setB (h:OrW w B B1 Nm Ns Nb Nl bk n g1 gy V1 V2 m p) (b:Bool):OrW (w.setCell ⟨Nb,0,none⟩ (.bool b)) B B1 Nm Ns Nb Nl bk n g1 gy V1 V2 m (p.1,b)∧FR Nl Nb bk w (w.setCell ⟨Nb,0,none⟩ (.bool b))∧Below B w (w.setCell ⟨Nb,0,none⟩ (.bool b)):=by
 have hk:Kp (fun q=>q=Nb) w (w.setCell ⟨Nb,0,none⟩ (.bool b)):=Kp.setCell _ _ _ rfl
 obtain⟨v,hbl,hown⟩:=h.bl
 refine⟨⟨h.bm.kp hk (Bk.neT h.bm h.bb (by decide)),h.bs.kp hk (Bk.neT h.bs h.bb (by decide)),h.bb.set 0 _,h.mr.kpN hk fun hq ht e=>?_,h.mp.block (hk.block _ h.mp.lt fun e=>h.mp.neB h.bb e.symm),⟨v,hbl.kp hk (Bk.neT hbl h.bb (by decide)),own_local hown fun q hq=>hk.block q (hown.lt q hq).2 fun e=>ownRow_bk hown h.bb (by decide) (e ▸ hq)⟩,h.ge,h.oi,h.nn⟩,FR.kp (hk.mono fun _ _ e=>.inl e) h.nlLt h.nlN.1 h.nlN.2,hk.toBelow (Below.refl _ w) (by have:=h.ge;have:=h.nlLt;omega) fun q e=>by have:=h.ge;omega⟩
 subst e
 rcases ht with rfl | rfl <;> exact Bk.neT hq h.bb (by decide) rfl
/-- an object, listed -/
theorem OrW.push {w2 w3:World} {v v':Value} {a:Int} {o:Obj} (h:OrW w B B1 Nm Ns Nb Nl bk n g1 gy V1 V2 m p) (hoi:m.OrdI (p.1++[a]))
  (hbl:Bk w Nl 23 #[v]) (hown:w.ownsRow B 3 1 v p.1.length (ints p.1))
  (hm2:MapT Tryz.prog 3 4 w2 bk (n+1) (insB (fun x=>p.1.contains x) a)) (hk2:w.grownBy w2 (some bk)) (hown3:w3.ownsRow B 3 1 v' (p.1.length+1) (ints p.1++[.int .i64 a])) (hg3:(w2.alloc o).grownBy w3 v.ownBlock) (hloc:v'.ownBlock=v.ownBlock ∨ v'.ownBlock=some (w2.alloc o).heap.size) :
  OrW (w3.setCell ⟨Nl,0,none⟩ v') B B1 Nm Ns Nb Nl bk (n+1) g1 gy V1 V2 m (p.1++[a],p.2)∧FR Nl Nb bk w (w3.setCell ⟨Nl,0,none⟩ v')∧Below B w (w3.setCell ⟨Nl,0,none⟩ v'):=by
 have hNl:=hbl.lt
 have hge:=h.ge
 have vNl:v.ownBlock≠some Nl:=ownRow_bk hown hbl (by decide)
 have vb:v.ownBlock≠some bk:=h.mp.neO hown
 have vNb:v.ownBlock≠some Nb:=ownRow_bk hown h.bb (by decide)
 have sz2:=hk2.size
 have sz3:=hg3.size
 simp only[World.size_alloc] at sz3
 have kp:∀ q,q < w.heap.size→q≠bk→v.ownBlock≠some q→w3.heap[q]?=w.heap[q]?:=fun q h0 h1 h2=>by
  rw[hg3.block q (by simp;omega) (fun e=>h2 e.symm),Below.heap_alloc _ _ _ (by omega),hk2.block q h0 (fun e=>h1 (Option.some.inj e))]
 have hkp:Kp (fun q=>q=bk ∨ v.ownBlock=some q) w w3:=⟨hg3.os.trans hk2.os,hg3.tape.trans hk2.tape,hg3.output.trans hk2.output,by omega,fun q h0 h1=>kp q h0 (fun e=>h1 (.inl e)) (fun e=>h1 (.inr e))⟩
 have hkS:Kp (fun q=>q=bk ∨ v.ownBlock=some q ∨ q=Nl) w (w3.setCell ⟨Nl,0,none⟩ v'):=(hkp.mono fun q _ e=>e.elim .inl fun e=>.inr (.inl e)).trans (Kp.setCell (S:=fun q=>q=Nl) w3 ⟨Nl,0,none⟩ v' rfl) fun q _ e=>.inr (.inr e)
 have nbS:∀ {g':Nat} {t:TypeId} {cs:Array Value},Bk w g' t cs→t≠23→t≠3→¬ (g'=bk ∨ v.ownBlock=some g' ∨ g'=Nl):=fun hb t1 t2 e=>by
  rcases e with rfl | e | rfl
  ·exact h.mp.neB hb rfl
  ·exact ownRow_bk hown hb t2 e
  ·exact Bk.neT hb hbl t1 rfl
 have hbl3:Bk w3 Nl 23 #[v]:=hbl.kp hkp fun e=>e.elim (fun e=>h.mp.neB hbl e) vNl
 have hm3:MapT Tryz.prog 3 4 w3 bk (n+1) (insB (fun x=>p.1.contains x) a):=by
  have hbt:=hm2.lt
  exact hm2.block (by rw[hg3.block bk (by simp;omega) (fun e=>vb e.symm),Below.heap_alloc _ _ _ (by omega)])
 have v'Nl:∀ q,v'.ownBlock=some q→q≠Nl:=fun q hq e=>by
  subst e
  rcases hloc with hl | hl
  ·rw[hl] at hq;exact vNl hq
  ·rw[hl] at hq
   have:=Option.some.inj hq
   simp only[World.size_alloc] at this
   omega
 have hfr:FR Nl Nb bk w (w3.setCell ⟨Nl,0,none⟩ v'):=⟨by simp[World.setCell];omega,fun T h0 t1 t2 t3 h4=>by
  have hv:=h4 v (hbl.cell 0)
  refine⟨(Below.heap_setCell _ _ _ _ t3).trans (kp T h0 t2 hv),fun u hu=>?_⟩
  have e:(w3.setCell ⟨Nl,0,none⟩ v').cell? ⟨Nl,0,none⟩=some v':=(hbl3.set 0 v').cell 0
  rw[e] at hu
  obtain rfl:=Option.some.inj hu
  rcases hloc with hl | hl
  ·rw[hl];exact hv
  ·rw[hl]
   intro e2
   have:=Option.some.inj e2
   simp only[World.size_alloc] at this
   omega⟩
 refine⟨⟨h.bm.kp hkS (nbS h.bm (by decide) (by decide)),h.bs.kp hkS (nbS h.bs (by decide) (by decide)),h.bb.kp hkS (nbS h.bb (by decide) (by decide)),h.mr.kpN hkS fun hq ht=>?_,?_,⟨v',hbl3.set 0 v',?_⟩,h.ge,hoi,?_⟩,hfr,?_⟩
 ·rcases ht with rfl | rfl
  ·exact nbS hq (by decide) (by decide)
  ·exact nbS hq (by decide) (by decide)
 ·exact(hm3.block (Below.heap_setCell _ _ _ _ fun e=>h.mp.neB hbl e.symm)).congr fun x _=>by
   unfold insB
   simp only[List.contains_append]
   by_cases hx:x=a
   ·subst hx;simp
   ·simp[hx]
 ·have e:ints (p.1++[a])=ints p.1++[.int .i64 a]:=by simp[ints]
  show World.ownsRow _ _ _ _ _ (p.1++[a]).length (ints (p.1++[a]))
  rw[e,List.length_append,List.length_singleton]
  exact own_local hown3 fun q hq=>Below.heap_setCell _ _ _ _ (v'Nl q hq)
 ·have:=h.nn
  show n+1≤(p.1++[a]).length
  rw[List.length_append,List.length_singleton]
  omega
 ·refine hkS.toBelow (Below.refl _ w) (by omega) fun q hq=>?_
  rcases hq with rfl | e | rfl
  ·omega
  ·exact(hown.lt q e).1
  ·omega
end
def LookP (w:World) (B B1 Nm Ns Nb Nl bk g1 gy:Nat) (V1 V2:Value) (m:Mm) (p:List Int × Bool) (e:Ending) (w':World):Prop :=
 e=.returned (.tuple #[])∧(∃ n,OrW w' B B1 Nm Ns Nb Nl bk n g1 gy V1 V2 m p)∧FR Nl Nb bk w w'∧Below B w w'
section
variable {w:World} {B B1 Nm Ns Nb Nl bk n g1 gy:Nat} {V1 V2:Value} {m:Mm} {p:List Int × Bool}
set_option maxHeartbeats 4000000 in
theorem look_any (h:OrW w B B1 Nm Ns Nb Nl bk n g1 gy V1 V2 m p) {x:Int} (hx:U64 x) (hm:m.size≤40000000) :
  Calls Tryz.prog 100 #[.int .u64 x,.pointer (some ⟨Nm,0,none⟩),.pointer (some ⟨Nb,0,none⟩),.pointer (some ⟨Ns,0,none⟩),.pointer (some ⟨Nl,0,none⟩)] w (LookP w B B1 Nm Ns Nb Nl bk g1 gy V1 V2 m (m.ord1 p x)):=by
 have cL:=nleads_any h.mr hx
 have m0:w.cell? ⟨Nm,0,none⟩=some (.pointer (some ⟨g1,0,none⟩)):=h.bm.cell 0
 have m1:w.cell? ⟨Nm,1,none⟩=some (.pointer (some ⟨gy,0,none⟩)):=h.bm.cell 1
 obtain⟨R,hR⟩:∃ R,R=m.ord1 p x:=⟨_,rfl⟩
 rw[← hR]
 unfold Mm.ord1 at hR
 have H:=lh h
 obtain⟨l,bd⟩:=p
 have H:Hid (OrW w B B1 Nm Ns Nb Nl bk n g1 gy V1 V2 m (l,bd)):=H
 dsimp only at hR
 cases ho:m.ld x with
 | none =>
  rw[ho] at hR cL
  unfold ldP at cL
  dsimp only at hR
  subst hR
  clear h hx ho
  go_enter Tryz.func100,Tryz.ntmps100
  go_wp2_with fail
  refine cL.mono ?_
  rintro e w1 ⟨rfl,hb⟩
  have H1:=lh (H.out.below hb)
  have HB1:=lh hb
  have b0:w1.cell? ⟨Nb,0,none⟩=some (.bool bd):=H1.out.bb.cell 0
  have f0:w1.frozen? ⟨Nb,0,none⟩=false:=H1.out.bb.free 0
  have bl:=H1.out.bb.lt
  clear hb cL m0 m1
  have fin:∀ b',b'=true→LookP w B B1 Nm Ns Nb Nl bk g1 gy V1 V2 m (l,true) (.returned (.tuple #[])) (w1.setCell ⟨Nb,0,none⟩ (.bool b')):=fun b' e=>by
   subst e
   have h1:=H1.out.setB true
   exact⟨rfl,⟨n,h1.1⟩,(FR.below HB1.out H.out.nlLt).trans h1.2.1,(HB1.out.mono (by have:=H.out.ge;have:=H.out.nlLt;omega)).trans h1.2.2⟩
  have FIN:=lh fin
  clear fin
  cases bd
  all_goals
   go_wp2_with fail
   go_end0
   exact FIN.out _ rfl
 | some o =>
  cases o with
  | none =>
   rw[ho] at hR cL
   unfold ldP at cL
   dsimp only at hR
   subst hR
   clear h hx ho
   go_enter Tryz.func100,Tryz.ntmps100
   go_wp2_with fail
   refine cL.mono ?_
   rintro e w1 ⟨rfl,hb⟩
   have H1:=lh (H.out.below hb)
   have HB1:=lh hb
   have b0:w1.cell? ⟨Nb,0,none⟩=some (.bool bd):=H1.out.bb.cell 0
   have f0:w1.frozen? ⟨Nb,0,none⟩=false:=H1.out.bb.free 0
   have bl:=H1.out.bb.lt
   clear hb cL m0 m1
   have fin:∀ b',b'=bd→LookP w B B1 Nm Ns Nb Nl bk g1 gy V1 V2 m (l,bd) (.returned (.tuple #[])) (w1.setCell ⟨Nb,0,none⟩ (.bool b')):=fun b' e=>by
    subst e
    have h1:=H1.out.setB b'
    exact⟨rfl,⟨n,h1.1⟩,(FR.below HB1.out H.out.nlLt).trans h1.2.1,(HB1.out.mono (by have:=H.out.ge;have:=H.out.nlLt;omega)).trans h1.2.2⟩
   have FIN:=lh fin
   clear fin
   cases bd
   all_goals
    go_wp2_with fail
    go_end0
    exact FIN.out _ rfl
  | some a =>
   have hah:=Mm.ld_hdr ho
   have har:=hdr_rg h.mr.ok hah.1
   have HWA:Hid ((Lit.int .i64 a).wf=true):=lh (WalkArith.wf_i64 (by omega))
   rw[ho] at hR cL
   unfold ldP at cL
   dsimp only at hR
   by_cases hy:16777216≤a
   ·have dy:decide (16777216≤a)=true:=decide_eq_true hy
    cases hct:l.contains a with
    | true =>
     rw[if_neg (by rw[hct];simp)] at hR
     subst hR
     clear h hx ho hah
     go_enter Tryz.func100,Tryz.ntmps100
     go_wp2_with fail
     refine cL.mono ?_
     rintro e w1 ⟨rfl,hb⟩
     have H1:=lh (H.out.below hb)
     have HB1:=lh hb
     have b0:w1.cell? ⟨Nb,0,none⟩=some (.bool bd):=H1.out.bb.cell 0
     have f0:w1.frozen? ⟨Nb,0,none⟩=false:=H1.out.bb.free 0
     have bl:=H1.out.bb.lt
     clear hb cL m0 m1
     have h2:∀ b',b'=bd→LookP w B B1 Nm Ns Nb Nl bk g1 gy V1 V2 m (l,bd) (.returned (.tuple #[])) (w1.setCell ⟨Nb,0,none⟩ (.bool b'))∧(w1.setCell ⟨Nb,0,none⟩ (.bool b')).cell? ⟨Ns,0,none⟩=some (.map (some bk))∧(Instr.lookup 127 (.map (some bk)) (.int .i64 a) false).run Tryz.prog (w1.setCell ⟨Nb,0,none⟩ (.bool b'))=.ok (.bool true) (w1.setCell ⟨Nb,0,none⟩ (.bool b')):=fun b' e=>by
      subst e
      have h1:=H1.out.setB b'
      have hlk:=h1.1.mp.look Tryz.underlying3 Tryz.underlying4 Tryz.underlying127 zero_bool HWA.out
      rw[hct] at hlk
      exact⟨⟨rfl,⟨n,h1.1⟩,(FR.below HB1.out H.out.nlLt).trans h1.2.1,(HB1.out.mono (by have:=H.out.ge;have:=H.out.nlLt;omega)).trans h1.2.2⟩,h1.1.bs.cell 0,hlk⟩
     have H2:=lh h2
     clear h2 hct
     cases bd
     all_goals
      first
       | (have c1:=(H2.out false rfl).2.1;have c2:=(H2.out false rfl).2.2)
       | (have c1:=(H2.out true rfl).2.1;have c2:=(H2.out true rfl).2.2)
      go_wp2_with fail
      go_end0
      exact(H2.out _ rfl).1
    | false =>
     rw[if_pos ⟨hy,hct⟩] at hR
     subst hR
     have HOI:=lh (show m.OrdI (l++[a]) from by
      have h1:=Mm.ord1_I (p:=(l,bd)) h.oi x
      unfold Mm.ord1 at h1
      rw[ho] at h1
      dsimp only at h1
      rw[if_pos ⟨hy,hct⟩] at h1
      exact h1)
     have HLN:=lh (show l.length≤40000000 from by
      have h1:=Mm.OrdI.len h.mr.ok h.oi
      unfold Mm.size at hm
      have h2:(l,bd).1.length=l.length:=rfl
      omega)
     have HNN:Hid (n≤l.length):=lh h.nn
     clear h hx ho hah
     go_enter Tryz.func100,Tryz.ntmps100
     go_wp2_with fail
     refine cL.mono ?_
     rintro e w1 ⟨rfl,hb⟩
     have H1:=lh (H.out.below hb)
     have HB1:=lh hb
     have b0:w1.cell? ⟨Nb,0,none⟩=some (.bool bd):=H1.out.bb.cell 0
     have f0:w1.frozen? ⟨Nb,0,none⟩=false:=H1.out.bb.free 0
     have bl:=H1.out.bb.lt
     clear hb cL m0 m1
     obtain⟨i0,hi,hz0,hz1,hz2⟩:=info_parts Tryz.infoI
     have HI:=lh (And.intro hi (And.intro hz0 (And.intro hz1 hz2)))
     have h2:∀ b',b'=bd→OrW (w1.setCell ⟨Nb,0,none⟩ (.bool b')) B B1 Nm Ns Nb Nl bk n g1 gy V1 V2 m (l,bd)∧(FR Nl Nb bk w (w1.setCell ⟨Nb,0,none⟩ (.bool b'))∧Below B w (w1.setCell ⟨Nb,0,none⟩ (.bool b')))∧(w1.setCell ⟨Nb,0,none⟩ (.bool b')).cell? ⟨Ns,0,none⟩=some (.map (some bk))∧(Instr.lookup 127 (.map (some bk)) (.int .i64 a) false).run Tryz.prog (w1.setCell ⟨Nb,0,none⟩ (.bool b'))=.ok (.bool false) (w1.setCell ⟨Nb,0,none⟩ (.bool b')):=fun b' e=>by
      subst e
      have h1:=H1.out.setB b'
      have hlk:=h1.1.mp.look Tryz.underlying3 Tryz.underlying4 Tryz.underlying127 zero_bool HWA.out
      rw[hct] at hlk
      exact⟨h1.1,⟨(FR.below HB1.out H.out.nlLt).trans h1.2.1,(HB1.out.mono (by have:=H.out.ge;have:=H.out.nlLt;omega)).trans h1.2.2⟩,h1.1.bs.cell 0,hlk⟩
     have H2:=lh h2
     clear h2 hct hi hz0 hz1 hz2
     have key:∀ w2,w2=w1.setCell ⟨Nb,0,none⟩ (.bool bd)→OrW w2 B B1 Nm Ns Nb Nl bk n g1 gy V1 V2 m (l,bd)∧(FR Nl Nb bk w w2∧Below B w w2):=fun w2 e=>by
      subst e
      exact⟨(H2.out bd rfl).1,(H2.out bd rfl).2.1⟩
     have KEY:=lh key
     clear key
     cases bd
     all_goals
      first
       | (have c1:=(H2.out false rfl).2.2.1;have c2:=(H2.out false rfl).2.2.2)
       | (have c1:=(H2.out true rfl).2.2.1;have c2:=(H2.out true rfl).2.2.2)
      go_upto_region 3 with fail
      first
       | (have HK:=lh (KEY.out (w1.setCell ⟨Nb,0,none⟩ (.bool false)) rfl);generalize w1.setCell ⟨Nb,0,none⟩ (.bool false)=wb at c1 c2 HK ⊢)
       | (have HK:=lh (KEY.out (w1.setCell ⟨Nb,0,none⟩ (.bool true)) rfl);generalize w1.setCell ⟨Nb,0,none⟩ (.bool true)=wb at c1 c2 HK ⊢)
      clear H2 KEY c2 b0 f0 bl HB1 H1
      obtain⟨v,hbl,hown⟩:=HK.out.1.bl
      have HBL:=lh hbl
      have HOWN:Hid (wb.ownsRow B 3 1 v l.length (ints l)):=lh hown
      have vNl:=lh (ownRow_bk hown hbl (by decide))
      have vb:=lh (HK.out.1.mp.neO hown)
      have nlb:=lh HK.out.1.nlN.2
      clear hbl hown
      have hl1:=HLN.out
      have hBl:B≤wb.heap.size:=by have h1:=HK.out.1.ge;have h2:=HK.out.1.nlLt;omega
      go_wp2_with (first | (refine wpList_set_put Tryz.underlying3 Tryz.underlying4 Tryz.underlying127 rfl (m:=.tmp 35) (x:=.tmp 36) (v:=.const (.bool true)) rfl HK.out.1.mp (by have:=HNN.out;have:=HLN.out;unfold maxLen;omega) rfl rfl rfl HWA.out ?_;intro w2 hm2 hg2;have HM2:=lh hm2;have HG2:=lh hg2;clear hm2;have s0:w2.cell? ⟨Nl,0,none⟩=some v:=(HBL.out.grown hg2 (fun e=>nlb.out (Option.some.inj e))).cell 0;have hBL2:=lh (HBL.out.grown hg2 (fun e=>nlb.out (Option.some.inj e)));have HOWN2:Hid (w2.ownsRow B 3 1 v l.length (ints l)):=lh (own_local HOWN.out fun q hq=>hg2.block q (HOWN.out.lt q hq).2 fun e=>vb.out (by rw[hq,e]));have hsz2:=hg2.size;clear hg2) | (at_builtin;refine wpList_append_own_at _ rfl (.tmp 37) (.tmp 39) 23 rfl B 3 i0 (.int .i64 0) 1 8 Tryz.underlying23 HI.out.1 HI.out.2.1 HI.out.2.2.1 HI.out.2.2.2 rfl (by decide) v l.length _ rfl (HOWN2.out.alloc _) ⟨w2.heap.size,0,none⟩ 1 1 [.int .i64 a] rfl rfl (cell_one_new _ _ _) (by simp[Value.oneCell']) (by unfold maxLen;omega) (by omega) (by simp;omega) ?_;intro v' w3 hown3 hg3 _ hloc;have HOWN3:=lh hown3;have HG3:=lh hg3;have HLOC:=lh hloc;obtain⟨gq,cp,rfl,_,_⟩:=hown3.form (by omega);have cw3:w3.cell? ⟨Nl,0,none⟩=some v:=((hBL2.out.alloc _).grown hg3 (fun e=>vNl.out e.symm)).cell 0;have fw3:w3.frozen? ⟨Nl,0,none⟩=false:=((hBL2.out.alloc _).grown hg3 (fun e=>vNl.out e.symm)).free 0;clear hown3 hg3 hloc))
      have hp:=HK.out.1.push HOI.out HBL.out HOWN.out HM2.out HG2.out HOWN3.out HG3.out HLOC.out
      have HP:=lh hp
      clear hp
      go_end0
      exact⟨rfl,⟨_,HP.out.1⟩,HK.out.2.1.trans HP.out.2.1,HK.out.2.2.trans HP.out.2.2⟩
   ·have dy:decide (16777216≤a)=false:=decide_eq_false hy
    rw[if_neg (fun e=>hy e.1)] at hR
    subst hR
    clear h hx ho hah
    go_enter Tryz.func100,Tryz.ntmps100
    go_wp2_with fail
    refine cL.mono ?_
    rintro e w1 ⟨rfl,hb⟩
    have H1:=lh (H.out.below hb)
    have HB1:=lh hb
    have b0:w1.cell? ⟨Nb,0,none⟩=some (.bool bd):=H1.out.bb.cell 0
    have f0:w1.frozen? ⟨Nb,0,none⟩=false:=H1.out.bb.free 0
    have bl:=H1.out.bb.lt
    clear hb cL m0 m1
    have fin:∀ b',b'=bd→LookP w B B1 Nm Ns Nb Nl bk g1 gy V1 V2 m (l,bd) (.returned (.tuple #[])) (w1.setCell ⟨Nb,0,none⟩ (.bool b')):=fun b' e=>by
     subst e
     have h1:=H1.out.setB b'
     exact⟨rfl,⟨n,h1.1⟩,(FR.below HB1.out H.out.nlLt).trans h1.2.1,(HB1.out.mono (by have:=H.out.ge;have:=H.out.nlLt;omega)).trans h1.2.2⟩
    have FIN:=lh fin
    clear fin
    cases bd
    all_goals
     go_wp2_with fail
     go_end0
     exact FIN.out _ rfl
end
theorem FR.keep {w w':World} {B B1 Nm Ns Nb Nl bk n g1 gy:Nat} {V1 V2:Value} {m:Mm} {p:List Int × Bool} (h:OrW w B B1 Nm Ns Nb Nl bk n g1 gy V1 V2 m p) (hf:FR Nl Nb bk w w') {g:Nat} {t:TypeId} {cs:Array Value} (hb:Bk w g t cs) (t1:t≠4) (t2:t≠23) (t3:t≠3):Bk w' g t cs:=by
 obtain⟨v,hbl,hown⟩:=h.bl
 exact((hf.bk g hb.lt (Bk.neT hb h.bb t1) (h.mp.neB hb) (Bk.neT hb hbl t2) (fun u hu=>by
  rw[hbl.cell 0] at hu
  obtain rfl:=Option.some.inj hu
  exact ownRow_bk hown hb t3)).1).trans hb
def Mm.gets (m:Mm) (as_:List Int):List Int:=as_.map fun a=>(m.at_ a).getD 0
theorem Mm.gets_take (m:Mm) {as_:List Int} {j:Nat} {a:Int} (h:as_[j]?=some a) (p:List Int × Bool):(m.gets (as_.take (j+1))).foldl m.ord1 p=m.ord1 ((m.gets (as_.take j)).foldl m.ord1 p) ((m.at_ a).getD 0):=by
 unfold Mm.gets
 rw[List.take_add_one,h,List.map_append,List.foldl_append]
 rfl
section
variable {w:World} {B B1 Nm Ns Nb Nl Nu bk n g1 gy:Nat} {V1 V2:Value} {m:Mm} {p:List Int × Bool} {as_:List Int} {A:Option Addr} {c:Nat}
set_option maxHeartbeats 4000000 in
theorem lookAt_any (h:OrW w B B1 Nm Ns Nb Nl bk n g1 gy V1 V2 m p) (hu:Bk w Nu 152 #[.func (.func 100) #[] #[.pointer (some ⟨Nm,0,none⟩),.pointer (some ⟨Nb,0,none⟩),.pointer (some ⟨Ns,0,none⟩),.pointer (some ⟨Nl,0,none⟩)]])
  (hs:Sl w 1 A as_.length (ints as_)) (hlc:as_.length≤c) (hll:as_.length≤1000000000) (hA:∀ b' o,A=some ⟨b',o,none⟩→b'≠Nb∧b'≠bk∧b'≠Nl∧ApartR w Nl b') (hm:m.size≤40000000) :
  Calls Tryz.prog 101 #[.slice A as_.length c,.pointer (some ⟨Nm,0,none⟩),.pointer (some ⟨Nu,0,none⟩)] w (LookP w B B1 Nm Ns Nb Nl bk g1 gy V1 V2 m ((m.gets as_).foldl m.ord1 p)):=by
 have H:=lh h
 have HU:=lh hu
 have HS:=lh hs
 have HA:=lh hA
 have HM:=lh hm
 have hnu:=hu.lt
 clear h hu hs hA hm
 go_enter Tryz.func101,Tryz.ntmps101
 go_wp2_with fail
 go_loopw [10] (fun i wr=>∃ j nj:Nat,i=.int .i64 (j:Int)∧j≤as_.length∧OrW wr B B1 Nm Ns Nb Nl bk nj g1 gy V1 V2 m ((m.gets (as_.take j)).foldl m.ord1 p)∧FR Nl Nb bk w wr∧Below B w wr) (fun i _=>as_.length - (intOf i).toNat)
 case atStart=>exact⟨0,n,rfl,Nat.zero_le _,H.out,FR.refl,Below.refl _ _⟩
 case round =>
  obtain⟨j,nj,rfl,hj,hv,hfr,hbw⟩:=hrel
  have HV:=lh hv
  have HF:=lh hfr
  have HB:=lh hbw
  clear hv hfr hbw
  by_cases hlt:j < as_.length
  ·obtain⟨bb,oo,rfl,hb1,hc1⟩:=HS.out.get hlt
   have t1:as_[j]?=some as_[j]:=List.getElem?_eq_getElem hlt
   have e0:w.cell? ⟨bb,oo+j,none⟩=some (.int .i64 as_[j]):=hc1 j _ (ints_get t1)
   obtain⟨a1,a2,a3,a4⟩:=HA.out bb oo rfl
   have e1:wr.cell? ⟨bb,oo+j,none⟩=some (.int .i64 as_[j]):=(World.cell?_of_block (w:=w) (a:=⟨bb,oo+j,none⟩) (HF.out.bk bb hb1 a1 a2 a3 a4).1).trans e0
   have HTK:=lh (m.gets_take t1 p)
   generalize as_[j]=a at e1 t1 HTK
   have hcc:j < c:=by omega
   have m0:wr.cell? ⟨Nm,0,none⟩=some (.pointer (some ⟨g1,0,none⟩)):=HV.out.bm.cell 0
   have m1:wr.cell? ⟨Nm,1,none⟩=some (.pointer (some ⟨gy,0,none⟩)):=HV.out.bm.cell 1
   have cL:=MLoad_of HV.out.mr a
   have hux:U64 ((m.at_ a).getD 0):=by
    cases hx:m.at_ a with
    | none=>exact⟨by decide,by decide⟩
    | some x =>
     unfold Mm.at_ Mm.sp at hx
     split at hx
     ·exact HV.out.mr.ok.o.at_u hx
     ·exact HV.out.mr.ok.y.at_u hx
   have HUX:=lh hux
   have HUK:=lh (FR.keep H.out HF.out HU.out (by decide) (by decide) (by decide))
   obtain⟨er,her⟩:∃ er,atV (m.at_ a)=.tuple #[.int .u64 ((m.at_ a).getD 0),.int .i64 er]:=by
    cases m.at_ a with
    | none=>exact⟨_,rfl⟩
    | some x=>exact⟨_,rfl⟩
   rw[her] at cL
   generalize (m.at_ a).getD 0=x at cL HTK HUX
   clear e0 a1 a2 a3 a4 hc1 t1 her hux
   go_wp2_with fail
   refine cL.mono ?_
   rintro e w1 ⟨rfl,hb⟩
   have HB1:=lh hb
   have HV1:=lh (HV.out.below hb)
   have u0:w1.cell? ⟨Nu,0,none⟩=some (.func (.func 100) #[] #[.pointer (some ⟨Nm,0,none⟩),.pointer (some ⟨Nb,0,none⟩),.pointer (some ⟨Ns,0,none⟩),.pointer (some ⟨Nl,0,none⟩)]):=(HUK.out.below hb HUK.out.lt).cell 0
   have cK:=look_any HV1.out HUX.out HM.out
   clear hb cL
   go_wp2_with fail
   refine cK.mono ?_
   rintro e w2 ⟨rfl,⟨n2,ho2⟩,hf2,hb2⟩
   have HO2:=lh ho2
   have HF2:=lh hf2
   have HB2:=lh hb2
   clear cK ho2 hf2 hb2
   go_wp2_with fail
   go_roundw
   case rel=>exact⟨j+1,n2,by go_num,by omega,by rw[HTK.out];exact HO2.out,(HF.out.trans (FR.below HB1.out HV.out.nlLt)).trans HF2.out,(HB.out.trans (HB1.out.mono (by have:=HV.out.ge;have:=HV.out.nlLt;omega))).trans HB2.out⟩
   case measure=>simp[intOf];omega
  ·obtain rfl:j=as_.length:=by omega
   go_wp2_with fail
   go_end0
   have h1:=HV.out
   rw[List.take_length] at h1
   exact⟨rfl,⟨_,h1⟩,HF.out,HB.out⟩
end
theorem OrW.start {w:World} {B1 g1 gy:Nat} {V1 V2:Value} {m:Mm} (h:MR w B1 g1 gy V1 V2 m) :
  OrW ((((((w.alloc (.cells #[.pointer (some ⟨g1,0,none⟩),.pointer (some ⟨gy,0,none⟩)] 29)).alloc (.cells #[.slice none 0 0] 23)).alloc (.map #[] 0)).alloc (.cells #[.map (some (w.heap.size+1+1))] 127)).alloc (.cells #[.bool false] 4)).alloc (.cells #[.func (.func 100) #[] #[.pointer (some ⟨w.heap.size,0,none⟩),.pointer (some ⟨w.heap.size+1+1+1+1,0,none⟩),.pointer (some ⟨w.heap.size+1+1+1,0,none⟩),.pointer (some ⟨w.heap.size+1,0,none⟩)]] 152))
   w.heap.size B1 w.heap.size (w.heap.size+1+1+1) (w.heap.size+1+1+1+1) (w.heap.size+1) (w.heap.size+1+1) 0 g1 gy V1 V2 m ([],false) ∧
  Bk ((((((w.alloc (.cells #[.pointer (some ⟨g1,0,none⟩),.pointer (some ⟨gy,0,none⟩)] 29)).alloc (.cells #[.slice none 0 0] 23)).alloc (.map #[] 0)).alloc (.cells #[.map (some (w.heap.size+1+1))] 127)).alloc (.cells #[.bool false] 4)).alloc (.cells #[.func (.func 100) #[] #[.pointer (some ⟨w.heap.size,0,none⟩),.pointer (some ⟨w.heap.size+1+1+1+1,0,none⟩),.pointer (some ⟨w.heap.size+1+1+1,0,none⟩),.pointer (some ⟨w.heap.size+1,0,none⟩)]] 152)) (w.heap.size+1+1+1+1+1) 152 #[.func (.func 100) #[] #[.pointer (some ⟨w.heap.size,0,none⟩),.pointer (some ⟨w.heap.size+1+1+1+1,0,none⟩),.pointer (some ⟨w.heap.size+1+1+1,0,none⟩),.pointer (some ⟨w.heap.size+1,0,none⟩)]] ∧
  Below w.heap.size w ((((((w.alloc (.cells #[.pointer (some ⟨g1,0,none⟩),.pointer (some ⟨gy,0,none⟩)] 29)).alloc (.cells #[.slice none 0 0] 23)).alloc (.map #[] 0)).alloc (.cells #[.map (some (w.heap.size+1+1))] 127)).alloc (.cells #[.bool false] 4)).alloc (.cells #[.func (.func 100) #[] #[.pointer (some ⟨w.heap.size,0,none⟩),.pointer (some ⟨w.heap.size+1+1+1+1,0,none⟩),.pointer (some ⟨w.heap.size+1+1+1,0,none⟩),.pointer (some ⟨w.heap.size+1,0,none⟩)]] 152)):=by
 have hb:=((((((Below.refl _ w).alloc (Nat.le_refl _) (.cells #[.pointer (some ⟨g1,0,none⟩),.pointer (some ⟨gy,0,none⟩)] 29)).alloc (by simp) (.cells #[.slice none 0 0] 23)).alloc (by simp;omega) (.map #[] 0)).alloc (by simp;omega) (.cells #[.map (some (w.heap.size+1+1))] 127)).alloc (by simp;omega) (.cells #[.bool false] 4)).alloc (by simp;omega) (.cells #[.func (.func 100) #[] #[.pointer (some ⟨w.heap.size,0,none⟩),.pointer (some ⟨w.heap.size+1+1+1+1,0,none⟩),.pointer (some ⟨w.heap.size+1+1+1,0,none⟩),.pointer (some ⟨w.heap.size+1,0,none⟩)]] 152)
 refine⟨⟨?_,?_,?_,h.below hb,?_,⟨.slice none 0 0,?_,⟨rfl,.inl ⟨rfl,rfl⟩⟩⟩,⟨by omega,by omega,by omega,by omega,by omega⟩,Mm.OrdI.nil m,Nat.le_refl _⟩,?_,hb⟩
 ·exact Bk.alloc (Bk.alloc (Bk.alloc (Bk.alloc (Bk.alloc (Bk.here _ _ _ rfl) _) _) _) _) _
 ·exact Bk.alloc (Bk.alloc (Bk.here _ _ _ (by simp)) _) _
 ·exact Bk.alloc (Bk.here _ _ _ (by simp)) _
 ·have hm:=MapT.made Tryz.prog 3 4 ((w.alloc (.cells #[.pointer (some ⟨g1,0,none⟩),.pointer (some ⟨gy,0,none⟩)] 29)).alloc (.cells #[.slice none 0 0] 23))
  simp only[World.size_alloc] at hm
  have alc:∀ {w1:World} {n:Nat} {f:Int→Bool} {b:Nat} (o:Obj),MapT Tryz.prog 3 4 w1 b n f→MapT Tryz.prog 3 4 (w1.alloc o) b n f:=fun o h=>h.block (Below.heap_alloc _ _ _ h.lt)
  exact(alc _ (alc _ (alc _ hm))).congr fun x _=>rfl
 ·exact Bk.alloc (Bk.alloc (Bk.alloc (Bk.alloc (Bk.here _ _ _ (by simp)) _) _) _) _
 ·exact Bk.here _ _ _ (by simp)
def IsT (B:Nat) (l:List Int) (v:Value) (w:World):Prop:=∃ A c,v=.slice A l.length c∧Sl w 1 A l.length (ints l)∧l.length≤c∧∀ b o,A=some ⟨b,o,none⟩→B≤b∧b < w.heap.size
theorem IsT.bl {B:Nat} {l:List Int} (v:Value) (w w':World) (h:IsT B l v w) (hb:Below w.heap.size w w'):IsT B l v w':=by
 obtain⟨A,c,e,h1,h2,h3⟩:=h
 exact⟨A,c,e,h1.below hb,h2,fun b o e=>⟨(h3 b o e).1,Nat.lt_of_lt_of_le (h3 b o e).2 hb.size⟩⟩
theorem IsT.of {B:Nat} {w w':World} {l:List Int} {v:Value} (h:w'.ownsRow w.heap.size 3 1 v l.length (ints l)) (hB:B≤w.heap.size):IsT B l v w':=by
 obtain⟨A,c,rfl,hc⟩:=own_shape h
 refine⟨A,c,rfl,own_sl h,hc,fun b o e=>?_⟩
 have:=h.lt b (by rw[e];rfl)
 omega
theorem phase2_end {P:Program} {ops:Array Oper} {Q:Exit→Act→World→Prop} {m:Nat} {a:Act} {w:World} (hm:ops.size=m) (h:Q .normal a w):Phase2 P ops Q m a w:=fun L hs hall _ f hf=>by
 have hL:∀ i,i < ops.size→L.getD i true=true:=fun i hi=>by
  have h1:=hall i (by omega)
  have:i < L.size:=by omega
  simpa [Array.getD,this] using h1
 have hr:Region.ready .any ops L=[]:=by
  refine List.eq_nil_iff_forall_not_mem.2 fun i hi=>?_
  have h2:=ready_lt hi
  obtain⟨hun,_⟩:=mem_ready.1 hi
  rw[hL i (by omega)] at hun
  cases hun
 have hz:((List.range ops.size).filter fun i=>!L.getD i true)=[]:=by
  refine List.filter_eq_nil_iff.2 fun i hi=>?_
  rw[hL i (List.mem_range.1 hi)]
  simp
 rw[hz] at hf
 subst hf
 exact⟨hr,h⟩
theorem slotNle9 (m:Mm) (a:Int):(slotN (m.hdr a).2).toNat≤1000000000:=by
 by_cases h:(m.hdr a).1=0
 ·have:=vH_bound (Mm.hdr_valid h)
  unfold slotN
  split
  ·simp
  ·split
   ·simp
   ·omega
 ·rw[Mm.hdr_zero h]
  decide
theorem Mm.ord1_len (m:Mm) (p:List Int × Bool) (x:Int):p.1.length≤(m.ord1 p x).1.length:=by
 unfold Mm.ord1
 split
 ·exact Nat.le_refl _
 ·exact Nat.le_refl _
 ·split
  ·simp
  ·exact Nat.le_refl _
theorem Mm.ordW_len (m:Mm):∀ (ws:List Int) (p:List Int × Bool),p.1.length≤(ws.foldl m.ord1 p).1.length
 | [],p=>Nat.le_refl _
 | x::ws,p=>Nat.le_trans (m.ord1_len p x) (Mm.ordW_len m ws (m.ord1 p x))
/-- what order returns -/
def OrdP (w:World) (p:List Int × Bool) (e:Ending) (w':World):Prop:=∃ v,e=.returned (.tuple #[v,.bool p.2])∧w'.ownsRow w.heap.size 3 1 v p.1.length (ints p.1)∧Below w.heap.size w w'
section
variable {w:World} {B1 B2 g1 gy gt bt kt:Nat} {V1 V2:Value} {m:Mm} {cs roots:List Int} {A:Option Addr} {c:Nat}
set_option maxHeartbeats 8000000 in
theorem norder_any (h:MR w B1 g1 gy V1 V2 m) (hc:CR w B2 gt bt kt cs) (hs:Sl w 1 A roots.length (wds roots)) (hlc:roots.length≤c) (hll:roots.length≤1000000000) (hru:∀ x∈roots,U64 x) (hA:∀ b' o,A=some ⟨b',o,none⟩→b' < w.heap.size) (hm:m.size≤40000000) (hcl:(m.crossing (cardIn cs)).length≤1000000000) :
  Calls Tryz.prog 53 #[.agg #[.pointer (some ⟨g1,0,none⟩),.pointer (some ⟨gy,0,none⟩)],.pointer (some ⟨gt,0,none⟩),.slice A roots.length c] w (OrdP w (m.order cs roots)):=by
 have hmm:=@run_makeMap Tryz.prog
 have H:=lh h
 have HC:=lh hc
 have HS:=lh hs
 have HRU:=lh hru
 have HA:=lh hA
 have HM:=lh hm
 have HCL:=lh hcl
 obtain⟨R,hR⟩:∃ R,R=m.order cs roots:=⟨_,rfl⟩
 rw[← hR]
 rw[Mm.order_F] at hR
 have HR:=lh hR
 clear h hc hs hru hA hm hcl hR
 go_enter Tryz.func53,Tryz.ntmps53
 go_upto_region 5 with fail
 have hst:=OrW.start H.out
 have HO:=lh hst.1
 have HU:=lh hst.2.1
 have HB:=lh hst.2.2
 clear hst
 generalize ((((((w.alloc (.cells #[.pointer (some ⟨g1,0,none⟩),.pointer (some ⟨gy,0,none⟩)] 29)).alloc (.cells #[.slice none 0 0] 23)).alloc (.map #[] 0)).alloc (.cells #[.map (some (w.heap.size+1+1))] 127)).alloc (.cells #[.bool false] 4)).alloc (.cells #[.func (.func 100) #[] #[.pointer (some ⟨w.heap.size,0,none⟩),.pointer (some ⟨w.heap.size+1+1+1+1,0,none⟩),.pointer (some ⟨w.heap.size+1+1+1,0,none⟩),.pointer (some ⟨w.heap.size+1,0,none⟩)]] 152))=w5 at HO HU HB ⊢
 obtain⟨Nu,hNu⟩:∃ Nu,Nu=w.heap.size+1+1+1+1+1:=⟨_,rfl⟩
 obtain⟨Nb,hNb⟩:∃ Nb,Nb=w.heap.size+1+1+1+1:=⟨_,rfl⟩
 obtain⟨Ns,hNs⟩:∃ Ns,Ns=w.heap.size+1+1+1:=⟨_,rfl⟩
 obtain⟨bk,hbk⟩:∃ bk,bk=w.heap.size+1+1:=⟨_,rfl⟩
 obtain⟨Nl,hNl⟩:∃ Nl,Nl=w.heap.size+1:=⟨_,rfl⟩
 rw[← hNu] at HU ⊢
 rw[← hNb] at HO HU ⊢
 rw[← hNs] at HO HU ⊢
 rw[← hbk] at HO ⊢
 rw[← hNl] at HO HU ⊢
 obtain⟨B,hBB⟩:∃ B,B=w.heap.size:=⟨_,rfl⟩
 obtain⟨Nm,hNm⟩:∃ Nm,Nm=w.heap.size:=⟨_,rfl⟩
 rw[← hNm] at HU ⊢
 have HO:Hid (OrW w5 B B1 Nm Ns Nb Nl bk 0 g1 gy V1 V2 m ([],false)):=by rw[hBB,hNm];exact HO
 have HB:Hid (Below B w w5):=by rw[hBB];exact HB
 have HBB:=lh hBB
 clear hNu hNb hNs hbk hNl hNm hBB
 go_wp2_with fail
 go_loopw [21] (fun i wr=>∃ j n:Nat,i=.int .i64 (j:Int)∧j≤roots.length∧OrW wr B B1 Nm Ns Nb Nl bk n g1 gy V1 V2 m ((roots.take j).foldl m.ord1 ([],false))∧Bk wr Nu 152 #[.func (.func 100) #[] #[.pointer (some ⟨Nm,0,none⟩),.pointer (some ⟨Nb,0,none⟩),.pointer (some ⟨Ns,0,none⟩),.pointer (some ⟨Nl,0,none⟩)]]∧Below B w wr) (fun i _=>roots.length - (intOf i).toNat)
 case atStart=>exact⟨0,0,rfl,Nat.zero_le _,HO.out,HU.out,HB.out⟩
 case round =>
  obtain⟨j,n,rfl,hj,ho,hu,hb⟩:=hrel
  have HOR:=lh ho
  have HUR:=lh hu
  have HBR:=lh hb
  by_cases hlt:j < roots.length
  ·obtain⟨bb,oo,rfl,hb1,hc1⟩:=HS.out.get hlt
   have t1:roots[j]?=some roots[j]:=List.getElem?_eq_getElem hlt
   have e1:wr.cell? ⟨bb,oo+j,none⟩=some (.int .u64 roots[j]):=(World.cell?_of_block (w:=w) (a:=⟨bb,oo+j,none⟩) (hb.block bb (by have:=HBB.out;omega))).trans (hc1 j _ (wds_get t1))
   have HTK:=lh (show(roots.take (j+1)).foldl m.ord1 ([],false)=m.ord1 ((roots.take j).foldl m.ord1 ([],false)) roots[j] by rw[List.take_add_one,t1,List.foldl_append];rfl)
   have hxu:=HRU.out roots[j] (List.getElem_mem hlt)
   generalize roots[j]=x at e1 t1 HTK hxu
   have hcc:j < c:=by omega
   have u0:wr.cell? ⟨Nu,0,none⟩=some (.func (.func 100) #[] #[.pointer (some ⟨Nm,0,none⟩),.pointer (some ⟨Nb,0,none⟩),.pointer (some ⟨Ns,0,none⟩),.pointer (some ⟨Nl,0,none⟩)]):=hu.cell 0
   have cK:=look_any ho hxu HM.out
   clear hc1 t1 ho hu hb hxu
   go_wp2_with fail
   refine cK.mono ?_
   rintro e w2 ⟨rfl,⟨n2,ho2⟩,hf2,hb2⟩
   have HO2:=lh ho2
   have HU2:=lh (FR.keep HOR.out hf2 HUR.out (by decide) (by decide) (by decide))
   have HB2:=lh hb2
   clear cK ho2 hf2 hb2
   go_wp2_with fail
   go_roundw
   case rel=>exact⟨j+1,n2,by go_num,by omega,by rw[HTK.out];exact HO2.out,HU2.out,HBR.out.trans HB2.out⟩
   case measure=>simp[intOf];omega
  ·obtain rfl:j=roots.length:=by omega
   rw[List.take_length] at ho
   have HOR:=lh ho
   have m0:wr.cell? ⟨Nm,0,none⟩=some (.pointer (some ⟨g1,0,none⟩)):=ho.bm.cell 0
   have m1:wr.cell? ⟨Nm,1,none⟩=some (.pointer (some ⟨gy,0,none⟩)):=ho.bm.cell 1
   have hwB:w.heap.size≤wr.heap.size:=hb.size
   have cR:=Remembered_any ho.mr (HC.out.below (by rw[← HBB.out];exact hb))
   obtain⟨p0,hp0⟩:∃ p0,p0=roots.foldl m.ord1 ([],false):=⟨_,rfl⟩
   rw[← hp0] at HOR
   have HR0:Hid (R=m.ordF 0 ((m.gets (m.crossing (cardIn cs))).foldl m.ord1 p0)):=lh (by rw[HR.out,hp0];rfl)
   have hcl:=HCL.out
   obtain⟨L,hL⟩:∃ L,L=m.crossing (cardIn cs):=⟨_,rfl⟩
   rw[← hL] at cR HR0 hcl
   clear HR hL hp0 ho hu hb hlt HCL
   go_wp2_with fail
   refine cR.mono ?_
   rintro e w1 ⟨v,rfl,hown,hb⟩
   obtain⟨A1,c1,rfl,hc1⟩:=own_shape hown
   have HO1:=lh (HOR.out.below hb)
   have HU1:=lh (HUR.out.below hb HUR.out.lt)
   have HB1:=lh (HBR.out.trans (hb.mono (by have:=HBB.out;omega)))
   have cK:=lookAt_any HO1.out HU1.out (own_sl hown) hc1 hcl (fun b' o e=>by
    subst e
    have h1:=(hown.lt b' rfl).1
    have h2:=HOR.out.bb.lt
    have h3:=HOR.out.mp.lt
    have h4:=HOR.out.nlLt
    refine⟨by omega,by omega,by omega,fun u hu=>?_⟩
    obtain⟨vv,hbl,hov⟩:=HOR.out.bl
    rw[(hbl.below hb hbl.lt).cell 0] at hu
    obtain rfl:=Option.some.inj hu
    intro e
    have:=(hov.lt b' e).2
    omega) HM.out
   clear cR hown hb
   go_wp2_with fail
   refine cK.mono ?_
   rintro e w2 ⟨rfl,⟨n2,ho2⟩,hf2,hb2⟩
   have HO2:=lh ho2
   have HU2:=lh (FR.keep HO1.out hf2 HU1.out (by decide) (by decide) (by decide))
   have HB2:=lh (HB1.out.trans hb2)
   clear cK ho2 hf2 hb2 HOR HUR HBR HO1 HU1 HB1 HO HU HB
   obtain⟨p1,hp1⟩:∃ p1,p1=(m.gets L).foldl m.ord1 p0:=⟨_,rfl⟩
   rw[← hp1] at HO2 HR0
   clear hp1 hcl hc1
   go_wp2_with fail
   have hin:=HO2.out.oi
   go_loopw [15] (fun i wr=>∃ (j n:Nat) (p:List Int × Bool),i=.int .i64 (j:Int)∧j≤p.1.length∧OrW wr B B1 Nm Ns Nb Nl bk n g1 gy V1 V2 m p∧Hid (R=m.ordF j p)∧Bk wr Nu 152 #[.func (.func 100) #[] #[.pointer (some ⟨Nm,0,none⟩),.pointer (some ⟨Nb,0,none⟩),.pointer (some ⟨Ns,0,none⟩),.pointer (some ⟨Nl,0,none⟩)]]∧Below B w wr) (fun i _=>m.yng.ws.length+1 - (intOf i).toNat)
   case atStart=>exact⟨0,n2,p1,rfl,Nat.zero_le _,HO2.out,HR0,HU2.out,HB2.out⟩
   case round =>
    clear HO2 HU2 HB2 HR0 hin
    obtain⟨j,n,p,rfl,hj,ho,HRJ,hu,hb⟩:=hrel
    have HOR:=lh ho
    have HUR:=lh hu
    have HBR:=lh hb
    have hln:=ho.oi.len ho.mr.ok
    have hyl:m.yng.ws.length≤40000000:=by have:=HM.out;unfold Mm.size at this;omega
    obtain⟨v,hbl,hown⟩:=ho.bl
    obtain⟨Al,cl,rfl,hcl2⟩:=own_shape hown
    have l0:wr.cell? ⟨Nl,0,none⟩=some (.slice Al p.1.length cl):=hbl.cell 0
    have m0:wr.cell? ⟨Nm,0,none⟩=some (.pointer (some ⟨g1,0,none⟩)):=ho.bm.cell 0
    have m1:wr.cell? ⟨Nm,1,none⟩=some (.pointer (some ⟨gy,0,none⟩)):=ho.bm.cell 1
    have b0:wr.cell? ⟨Nb,0,none⟩=some (.bool p.2):=ho.bb.cell 0
    by_cases hlt:j < p.1.length
    ·obtain⟨bb,oo,rfl,hb1,hc1⟩:=(own_sl hown).get hlt
     have t1:p.1[j]?=some p.1[j]:=List.getElem?_eq_getElem hlt
     have e1:wr.cell? ⟨bb,oo+j,none⟩=some (.int .i64 p.1[j]):=hc1 j _ (ints_get t1)
     have HST:=lh (Mm.ordF_step ho.mr.ok ho.oi t1)
     generalize p.1[j]=a at e1 t1 HST
     have hcc:j < cl:=by omega
     have hjI:(j:Int) < (p.1.length:Int):=by omega
     have HSG:=lh (show m.gets (m.slA a)=m.slW a by unfold Mm.gets Mm.slA Mm.slW;rw[List.map_map];rfl)
     have HSL:=lh (m.slA_len a)
     have HE1:=lh (And.intro hb1 e1)
     have HBL:=lh hbl
     clear hc1 t1 ho hu hb hbl hown b0 hb1
     go_wp2_with fail
     have HBM:=lh HOR.out.bm
     clear m0 m1 l0
     refine wp_region_first 7 (fun i=>([[],[],[],[],[2,3],[4],[1,5]]:List (List Nat)).getD i []) (EL [Ent.val (.func (.func 101) #[] #[.pointer (some ⟨Nm,0,none⟩),.pointer (some ⟨Nu,0,none⟩)]),Ent.val (.agg #[.pointer (some ⟨g1,0,none⟩),.pointer (some ⟨gy,0,none⟩)]),Ent.val (.slice (some ⟨bb,oo,none⟩) p.1.length cl),Ent.val (.int .i64 (j:Int)),Ent.val (.pointer (some ⟨bb,oo+j,none⟩)),Ent.val (.int .i64 a),Ent.of (IsT wr.heap.size (m.slA a)) IsT.bl]) rfl (by kernel_rfl) (by kernel_rfl) (by kernel_rfl) (by rfl) ?_ ?_
     ·intro i hi o ho vs w1 hb1 hgr
      rcases (show i=0 ∨ i=1 ∨ i=2 ∨ i=3 ∨ i=4 ∨ i=5 ∨ i=6 by omega) with rfl | rfl | rfl | rfl | rfl | rfl | rfl <;> cases ho
      ·clear hgr
       change Made _ (Adds _ _ _) (Sem.run _ (execOp (Act.eval (frm _ _ _ [])) _) _)
       simp only[frm]
       go_simp
       exact adds_val rfl
      ·clear hgr
       change Made _ (Adds _ _ _) (Sem.run _ (execOp (Act.eval (frm _ _ _ [])) _) _)
       simp only[frm]
       have hbk:=HBM.out.below hb1 HBM.out.lt
       have c0:w1.cell? ⟨Nm,0,none⟩=some (.pointer (some ⟨g1,0,none⟩)):=hbk.cell 0
       have c1:w1.cell? ⟨Nm,1,none⟩=some (.pointer (some ⟨gy,0,none⟩)):=hbk.cell 1
       clear hbk
       go_simp
       exact adds_val rfl
      ·clear hgr
       change Made _ (Adds _ _ _) (Sem.run _ (execOp (Act.eval (frm _ _ _ [])) _) _)
       simp only[frm]
       have hbk:=HBL.out.below hb1 HBL.out.lt
       have c0:w1.cell? ⟨Nl,0,none⟩=some (.slice (some ⟨bb,oo,none⟩) p.1.length cl):=hbk.cell 0
       clear hbk
       go_simp
       exact adds_val rfl
      ·clear hgr
       change Made _ (Adds _ _ _) (Sem.run _ (execOp (Act.eval (frm _ _ _ [])) _) _)
       simp only[frm]
       go_simp
       exact adds_val rfl
      ·have h2:vs 2=_:=hgr 2 (by decide)
       have h3:vs 3=_:=hgr 3 (by decide)
       clear hgr
       change Made _ (Adds _ _ _) (Sem.run _ (execOp (Act.eval (Act.put (Act.put (frm _ _ _ []) (some 43) (vs 3)) (some 42) (vs 2))) _) _)
       simp only[frm,h2,h3]
       go_simp
       exact adds_val rfl
      ·have h4:vs 4=_:=hgr 4 (by decide)
       clear hgr
       change Made _ (Adds _ _ _) (Sem.run _ (execOp (Act.eval (Act.put (frm _ _ _ []) (some 44) (vs 4))) _) _)
       simp only[frm,h4]
       have e8:w1.cell? ⟨bb,oo+j,none⟩=some (.int .i64 a):=((bcell hb1).1 _ _ HE1.out.1).trans HE1.out.2
       go_simp
       exact adds_val rfl
      ·have h1:vs 1=_:=hgr 1 (by decide)
       have h5:vs 5=_:=hgr 5 (by decide)
       clear hgr
       change Made _ (Adds _ _ _) (Sem.run _ (execOp (Act.eval (Act.put (Act.put (frm _ _ _ []) (some 45) (vs 5)) (some 41) (vs 1))) _) _)
       simp only[frm,h1,h5]
       have cS:=nslots_any (HOR.out.below hb1).mr a
       go_simp
       exact adds_call (T:=IsT wr.heap.size (m.slA a)) (hT:=IsT.bl) (ob:=fun _=>none) cS fun e w2 ⟨v,he,ho,hb⟩=>⟨v,he,IsT.of ho hb1.size,hb,(fun k hk=>nomatch hk)⟩
     ·intro vs w1 hb1 hall hap
      have h0:vs 0=_:=(hall 0 (by omega)).1
      obtain⟨Ar,cr,h6,hsr,hcr,hgr6⟩:=(hall 6 (by omega)).1
      clear hall hap
      change wpList _ _ _ [_] (Act.put (Act.put (Act.put (Act.put (Act.put (Act.put (Act.put (frm _ _ _ []) (some 46) (vs 6)) (some 45) (vs 5)) (some 44) (vs 4)) (some 43) (vs 3)) (some 42) (vs 2)) (some 41) (vs 1)) (some 40) (vs 0)) _
      simp only[frm,h0,h6]
      have HO6:=lh (HOR.out.below hb1)
      have HU6:=lh (HUR.out.below hb1 HUR.out.lt)
      have HB6:=lh (HBR.out.trans (hb1.mono (by have:=HOR.out.ge;have:=HOR.out.nlLt;omega)))
      have hsl8:=HSL.out
      have hsln:(m.slA a).length≤1000000000:=by rw[hsl8];exact slotNle9 m a
      have cK:=lookAt_any HO6.out HU6.out hsr hcr hsln (fun b' o e=>by
       have h1:=hgr6 b' o e
       have h2:=HOR.out.bb.lt
       have h3:=HOR.out.mp.lt
       have h4:=HOR.out.nlLt
       refine⟨by omega,by omega,by omega,fun u hu=>?_⟩
       obtain⟨vv,hbl,hov⟩:=HOR.out.bl
       rw[(hbl.below hb1 hbl.lt).cell 0] at hu
       obtain rfl:=Option.some.inj hu
       intro e
       have:=(hov.lt b' e).2
       omega) HM.out
      rw[HSG.out] at cK
      clear hsr hcr hgr6 h0 h6 hb1 hsl8 hsln
      go_wp2_with fail
      refine cK.mono ?_
      rintro e w2 ⟨rfl,⟨n2,ho2⟩,hf2,hb2⟩
      have HO2:=lh ho2
      have HU2:=lh (FR.keep HO6.out hf2 HU6.out (by decide) (by decide) (by decide))
      have HB2:=lh (HB6.out.trans hb2)
      have HJ2:=lh (show j+1≤((m.slW a).foldl m.ord1 p).1.length from by
       have:=Mm.ordW_len m (m.slW a) p
       omega)
      clear cK ho2 hf2 hb2 HO6 HU6 HB6
      go_wp2_with fail
      rw[normalTo_normal]
      refine phase2_end rfl ?_
      go_wp2_with fail
      refine⟨⟨j+1,n2,_,by go_num,HJ2.out,HO2.out,lh (HRJ.out.trans HST.out),HU2.out,HB2.out⟩,?_⟩
      simp[intOf]
      omega
    ·obtain rfl:j=p.1.length:=by omega
     have HE:=lh (HRJ.out.trans (Mm.ordF_end (Nat.le_refl _)))
     have HOW:=lh hown
     clear ho hu hb hbl hown HRJ
     go_wp2_with fail
     go_quiet (fail)
     go_wp2_with fail
     go_ret2
     rw[HE.out]
     refine⟨_,rfl,?_,below_drewN (by rw[← HBB.out];exact HBR.out) _⟩
     rw[← HBB.out]
     exact own_local HOW.out fun k _=>rfl
end
section
variable {w:World} {B1 B2 g1 gy gt bt kt:Nat} {V1 V2:Value} {m:Mm} {cs roots:List Int} {A:Option Addr} {c:Nat}
end
end
end Go.Proofs.YtaijmgkjbbiboaaGreat
