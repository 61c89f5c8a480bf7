/- Parts of the proof: StrP, BldP, RMk2, CompP, MId, NurC, NurD. -/
import Derived.BigQuiet
import Derived.Deep.AppendLies
import Derived.Deep.DeepCutAuto
import Derived.Deep.LoopGhost
import Derived.Deep.QuietTactic
import Derived.Lib.QuietBelow
import Derived.Maps.AppendAt
import Derived.Test.YtaijmgkjbbiboaaGreatPcA
import Derived.WalkMore
import Derived.WalkSmall
import Derived.Test.YtaijmgkjbbiboaaGreatPc12
import Derived.Test.YtaijmgkjbbiboaaGreatPc14
import Derived.Test.YtaijmgkjbbiboaaGreatPc17
import Derived.Test.YtaijmgkjbbiboaaGreatPc18
import Derived.Test.YtaijmgkjbbiboaaGreatPc20
import Derived.Test.YtaijmgkjbbiboaaGreatPc23
import Derived.Test.YtaijmgkjbbiboaaGreatPc6
set_option linter.unusedVariables false
set_option linter.unusedSimpArgs false
set_option linter.unusedSectionVars false
set_option maxRecDepth 100000
namespace Go.Proofs.YtaijmgkjbbiboaaGreat
section
structure Mm.Fnd (m:Mm) (out:List Int):Prop where
 nd:out.Nodup
 ok:∀ a∈out,(m.hdr a).1=0∧(m.hdr a).2.k≠4
end
section
structure Op1 where
 k:Int
 h:Hdr
 a:Int
 b:Int
 i:Int
 w:Int
structure Op1.Ok (o:Op1):Prop where
 k0:-9223372036854775808≤o.k
 k1:o.k≤9223372036854775807
 a0:-9223372036854775808≤o.a
 a1:o.a≤9223372036854775807
 b0:-9223372036854775808≤o.b
 b1:o.b≤9223372036854775807
 i0:-9223372036854775808≤o.i
 i1:o.i≤9223372036854775807
 w:U64 o.w
/-- the addresses: no more than the operations, below 2^24 -/
structure Bld (p:Mm × List Int) (n:Nat):Prop where
 ok:p.1.Ok
 len:p.2.length≤n
 rg:∀ a∈p.2,0≤a∧a≤16777216
end
section
open Go.RowKit Go.Sort
attribute [local go_sem] Oper.semAt_some
theorem ownBase {w:World} {B B' n s:Nat} {e:TypeId} {v:Value} {xs:List Value} (h:w.ownsRow B e s v n xs) (hb:B'≤B):w.ownsRow B' e s v n xs:=by
 obtain⟨h1,h2 | ⟨g,cap,cur,rfl,h3,h4,h5⟩⟩:=h
 ·exact⟨h1,.inl h2⟩
 ·exact⟨h1,.inr ⟨g,cap,cur,rfl,Nat.le_trans hb h3,h4,h5⟩⟩
section
variable {w:World} {s:Spc} {A:Option Addr} {c:Nat}
end
end
section
open Go.RowKit Go.Sort
attribute [local go_sem] Oper.semAt_some onlyN_normal
section
variable {m:Mm} {k x:Int} {l out:List Int}
end
section
variable {w w' wB:World} {g:Nat} {hd:Hdr} {fl out:List Int} {u v v':Value}
end
section
variable {w:World} {s:Spc} {A A2:Option Addr} {c c2:Nat} {roots:List Int}
end
end
section
open Go.RowKit
/-- an object that walking reaches -/
structure Spc.Obj (s:Spc) (a:Int):Prop where
 lo:s.base≤a
 hi:a+wH ((Mm.one s).hdr a).2≤s.top
 ok:((Mm.one s).hdr a).1=0
/-- marked objects that walking reaches, in increasing order -/
structure Spc.Pl (s:Spc) (ms:List Int):Prop where
 inc:ms.Pairwise (· < ·)
 ob:∀ a∈ms,a∈s.objs
def Mm.idOf (m:Mm) (a:Int):Id:=dI ((m.at_ (a+1)).getD 0)
end
section
open Go.RowKit Go.Sort
attribute [local go_sem] Oper.semAt_some onlyN_normal
theorem Mm.Ok.id_at {m:Mm} (ok:m.Ok) {a:Int} (h0:(m.hdr a).1=0):∃ v,m.at_ (a+1)=some v∧dI v=m.idOf a∧U64 v:=by
 have hw:=wH_ge (Mm.hdr_valid h0)
 obtain⟨hh,hs⟩:=ok.has_near h0 (j:=1) (by omega) (by omega)
 obtain⟨i,_,_,v,_,hv⟩:=Spc.at_some (s:=m.sp (a+1)) (a:=a+1) hh
 have hv':m.at_ (a+1)=some v:=hv
 refine⟨v,hv',?_,ok.at_u hv'⟩
 unfold Mm.idOf
 rw[hv']
 rfl
section
variable {w:World} {B g g1 g2:Nat} {V V1 V2:Value} {m:Mm} {s:Spc}
set_option maxHeartbeats 4000000 in
theorem MID_yes (h:MR w B g1 g2 V1 V2 m) {a:Int} (h0:(m.hdr a).1=0) (ha:0≤a∧a≤4294967296):Calls Tryz.prog 23 #[.agg #[.pointer (some ⟨g1,0,none⟩),.pointer (some ⟨g2,0,none⟩)],.int .i64 a] w fun e w'=>e=.returned (.tuple #[.agg #[.int .i64 (m.idOf a).m,.int .i64 (m.idOf a).s],.int .i64 0])∧Below w.heap.size w w':=by
 obtain⟨v,hv,hid,hvu⟩:=h.ok.id_at h0
 rw[← hid]
 have hHB:Below w.heap.size w ((w.alloc (.cells #[.pointer (some ⟨g1,0,none⟩),.pointer (some ⟨g2,0,none⟩)] 29)).alloc (.cells #[.int .i64 0,.int .i64 0] 65)):=((Below.refl _ _).alloc (Nat.le_refl _) _).alloc (by simp) _
 have HB:=lh hHB
 have HM:Hid (Bk ((w.alloc (.cells #[.pointer (some ⟨g1,0,none⟩),.pointer (some ⟨g2,0,none⟩)] 29)).alloc (.cells #[.int .i64 0,.int .i64 0] 65)) w.heap.size 29 #[.pointer (some ⟨g1,0,none⟩),.pointer (some ⟨g2,0,none⟩)]):=lh ((Bk.new _ _ _).alloc _)
 have HI:Hid (Bk ((w.alloc (.cells #[.pointer (some ⟨g1,0,none⟩),.pointer (some ⟨g2,0,none⟩)] 29)).alloc (.cells #[.int .i64 0,.int .i64 0] 65)) (w.heap.size+1) 65 #[.int .i64 0,.int .i64 0]):=lh (Bk.here _ _ _ (by simp))
 have H:=lh (h.below hHB)
 have cH:=MHdr_of H.out a
 rw[h0] at cH
 have HV:=lh hv
 have HVU:=lh hvu
 have cD:=fun w=>DecodeID_any hvu w
 unfold Id.val at cD
 have hwp:IntKind.i64.wrap (a+1)=a+1:=IntWalk.i64_in _ (by omega)
 clear h hHB hv hid hvu h0
 go_enter Tryz.func23,Tryz.ntmps23
 go_upto_region 1 with fail
 generalize (w.alloc (.cells #[.pointer (some ⟨g1,0,none⟩),.pointer (some ⟨g2,0,none⟩)] 29)).alloc (.cells #[.int .i64 0,.int .i64 0] 65)=wB at *
 have q0:wB.cell? ⟨w.heap.size,0,none⟩=some (.pointer (some ⟨g1,0,none⟩)):=HM.out.cell 0
 have q1:wB.cell? ⟨w.heap.size,1,none⟩=some (.pointer (some ⟨g2,0,none⟩)):=HM.out.cell 1
 go_wp2_with fail
 refine cH.mono ?_
 rintro e w1 ⟨rfl,hb1⟩
 have hbx:=hb1.trans (((Below.refl w1.heap.size w1).alloc (Nat.le_refl _) (.cells #[.int .i64 (m.hdr a).2.k,.int .i64 (m.hdr a).2.c,.int .i64 (m.hdr a).2.f] 58)).mono hb1.size)
 clear cH q0 q1
 go_upto_region 4 with fail
 have HB1:=lh (HB.out.trans (hbx.mono HB.out.size))
 have HM1:=lh (HM.out.below hbx HM.out.lt)
 have HI1:=lh (HI.out.below hbx HI.out.lt)
 have H1:=lh (H.out.below hbx)
 clear hbx hb1 HB HM HI H
 generalize w1.alloc (.cells #[.int .i64 (m.hdr a).2.k,.int .i64 (m.hdr a).2.c,.int .i64 (m.hdr a).2.f] 58)=w2 at *
 have q0:w2.cell? ⟨w.heap.size,0,none⟩=some (.pointer (some ⟨g1,0,none⟩)):=HM1.out.cell 0
 have q1:w2.cell? ⟨w.heap.size,1,none⟩=some (.pointer (some ⟨g2,0,none⟩)):=HM1.out.cell 1
 have cL:=MLoad_any H1.out (a+1)
 rw[HV.out] at cL
 unfold memV atV at cL
 go_wp2_with fail
 refine cL.mono ?_
 rintro e w3 ⟨rfl,hb3⟩
 have HB3:=lh (HB1.out.trans (hb3.mono HB1.out.size))
 have HI3:=lh (HI1.out.below hb3 HI1.out.lt)
 clear cL q0 q1 hb3 HM1 HI1 HB1 H1
 go_wp2_with fail
 refine(cD _).mono ?_
 rintro e w4 ⟨rfl,hb4⟩
 have HB4:=lh (HB3.out.trans (hb4.mono HB3.out.size))
 have HI4:=lh (HI3.out.below hb4 HI3.out.lt)
 have d0:w4.cell? ⟨w.heap.size+1,0,none⟩=some (.int .i64 0):=HI4.out.cell 0
 have d1:w4.cell? ⟨w.heap.size+1,1,none⟩=some (.int .i64 0):=HI4.out.cell 1
 have f0:=HI4.out.free 0
 have f1:=HI4.out.free 1
 clear hb4 cD HB3 HI3
 go_wp2_with fail
 refine bodyPost_ret (v:=.tuple #[.agg #[.int .i64 (dI v).m,.int .i64 (dI v).s],.int .i64 0]) (by simp[results,Tryz.results23,go_sem,d0,d1]) rfl ⟨rfl,?_⟩
 exact(HB4.out.setCell (p:=⟨w.heap.size+1,0,none⟩) (by simp) _).setCell (p:=⟨w.heap.size+1,1,none⟩) (by simp) _
end
theorem dI_eq' {v:Int} (hz:dI v≠Id.zero):eI (dI v)=v:=by
 have h1:=dI_ne hz
 unfold dI at h1 ⊢
 split at h1
 ·rename_i h2
  rw[if_pos h2]
  unfold eI
  dsimp only
  omega
 ·exact absurd h1 (by rw[vI_zero];simp)
/-- an object's header and identity, allocated in a space -/
theorem Mm.alc_copy {m:Mm} (ok:m.Ok) {a:Int} (h:(m.hdr a).1=0) (s:Spc) :
  (s.top+wH (m.hdr a).2≤s.limit→s.alloc (m.hdr a).2 (m.idOf a)=(0,{ s with ws:=s.ws++m.hdW a },s.top))∧(¬ s.top+wH (m.hdr a).2≤s.limit→s.alloc (m.hdr a).2 (m.idOf a)=(8,s,0)):=by
 obtain⟨x,v,hx,hd,hv,hi,hw⟩:=Spc.hdr_ok (s:=m.sp a) h
 have hvd:=Mm.hdr_valid h
 have e1:(m.at_ a).getD 0=x:=by unfold Mm.at_;rw[hx];rfl
 have hsp:m.sp (a+1)=m.sp a:=(ok.has_near h (j:=1) (by omega) (by have:=wH_ge hvd;omega)).2
 have e2:(m.at_ (a+1)).getD 0=v:=by unfold Mm.at_;rw[hsp,hv];rfl
 have e3:eH (m.hdr a).2=x:=(dH_some hd).2
 have e4:m.idOf a=dI v:=by unfold Mm.idOf;rw[e2]
 have e5:eI (m.idOf a)=v:=by rw[e4];exact dI_eq' hi
 have e6:vI (m.idOf a)=true:=by rw[e4];exact dI_ne hi
 refine⟨fun hf=>?_,fun hf=>?_⟩
 ·unfold Spc.alloc
  rw[if_neg (by simp[hvd,e6]),if_neg (by omega),e3,e5]
  unfold Mm.hdW
  rw[e1,e2]
 ·unfold Spc.alloc
  rw[if_neg (by simp[hvd,e6]),if_pos (by omega)]
end
section
open Go.RowKit Go.Maps
attribute [local go_sem] Oper.semAt_some
/-- the new addresses as a function -/
def naF (l ts:List Int) (a:Int):Option Int:=if l.contains a=true then some (newAt l ts a) else none
/-- the world of the closure moved -/
structure MvW (w:World) (B Nm Nt bk n g1 gy:Nat) (V1 V2:Value) (m:Mm) (l ts:List Int):Prop where
 mr:MR w B g1 gy V1 V2 m
 bm:Bk w Nm 29 #[.pointer (some ⟨g1,0,none⟩),.pointer (some ⟨gy,0,none⟩)]
 bt:Bk w Nt 104 #[.map (some bk)]
 mp:MapI Tryz.prog 3 3 w bk n (naF l ts)
section
variable {w w':World} {B Nm Nt bk n g1 gy:Nat} {V1 V2:Value} {m:Mm} {l ts:List Int}
theorem MvW.below (h:MvW w B Nm Nt bk n g1 gy V1 V2 m l ts) (hb:Below w.heap.size w w'):MvW w' B Nm Nt bk n g1 gy V1 V2 m l ts :=
 ⟨h.mr.below hb,h.bm.below hb h.bm.lt,h.bt.below hb h.bt.lt,h.mp.block (hb.block _ h.mp.lt)⟩
set_option maxHeartbeats 2000000 in
theorem moved_any (h:MvW w B Nm Nt bk n g1 gy V1 V2 m l ts) {x:Int} (hx:U64 x):Calls Tryz.prog 57 #[.int .u64 x,.pointer (some ⟨Nm,0,none⟩),.pointer (some ⟨Nt,0,none⟩)] w fun e w'=>e=.returned (.int .u64 (m.mvd l ts x))∧Below w.heap.size w w':=by
 have cL:=nleads_any h.mr hx
 have m0:w.cell? ⟨Nm,0,none⟩=some (.pointer (some ⟨g1,0,none⟩)):=h.bm.cell 0
 have m1:w.cell? ⟨Nm,1,none⟩=some (.pointer (some ⟨gy,0,none⟩)):=h.bm.cell 1
 obtain⟨R,hR⟩:∃ R,R=m.mvd l ts x:=⟨_,rfl⟩
 rw[← hR]
 unfold Mm.mvd at hR
 cases ho:m.ld x with
 | none =>
  rw[ho] at hR cL
  unfold ldP at cL
  dsimp only at hR
  subst hR
  clear h ho
  go_enter Tryz.func57,Tryz.ntmps57
  go_wp2_with fail
  refine cL.mono ?_
  rintro e w1 ⟨rfl,hb⟩
  have HB1:=lh hb
  clear hb cL
  go_wp2_with fail
  go_ret
  exact⟨rfl,HB1.out⟩
 | some o =>
  cases o with
  | none =>
   rw[ho] at hR cL
   unfold ldP at cL
   dsimp only at hR
   subst hR
   clear h ho
   go_enter Tryz.func57,Tryz.ntmps57
   go_wp2_with fail
   refine cL.mono ?_
   rintro e w1 ⟨rfl,hb⟩
   have HB1:=lh hb
   clear hb cL
   go_wp2_with fail
   go_ret
   exact⟨rfl,HB1.out⟩
  | some a =>
   have hah:=Mm.ld_hdr ho
   have har:=hdr_rg h.mr.ok hah.1
   rw[ho] at hR cL
   unfold ldP at cL
   dsimp only at hR
   have hlk:=fun w1 (hb:Below w.heap.size w w1)=>(h.below hb).mp.look_ok hKI hKI hMI hZI (x:=a) (WalkArith.wf_i64 (by omega))
   have hbt:=fun w1 (hb:Below w.heap.size w w1)=>(h.below hb).bt.cell 0
   unfold naF at hlk
   by_cases hc:l.contains a=true
   ·simp only[if_pos hc,Option.getD_some,Option.isSome_some] at hlk
    obtain⟨y,hy⟩:∃ y,y=newAt l ts a:=⟨_,rfl⟩
    rw[← hy] at hR hlk
    have cF:=fun w=>FromAddress_any y w
    unfold frA at cF
    unfold frW at hR
    clear h ho hah hc hy
    cases hin:inA y with
    | true =>
     rw[hin,if_pos rfl] at hR cF
     obtain⟨z,hz⟩:∃ z,z=adW y:=⟨_,rfl⟩
     rw[← hz] at hR cF
     subst hR
     clear hin hz
     go_enter Tryz.func57,Tryz.ntmps57
     go_wp2_with fail
     refine cL.mono ?_
     rintro e w1 ⟨rfl,hb⟩
     have HB1:=lh hb
     have hl:=hlk _ hb
     have b0:w1.cell? ⟨Nt,0,none⟩=some (.map (some bk)):=hbt _ hb
     clear hb cL hlk hbt
     go_wp2_with fail
     refine(cF _).mono ?_
     rintro e w3 ⟨rfl,rfl⟩
     go_wp2_with fail
     go_ret
     exact⟨rfl,HB1.out⟩
    | false =>
     rw[hin,if_neg (by decide)] at hR cF
     subst hR
     clear hin
     go_enter Tryz.func57,Tryz.ntmps57
     go_wp2_with fail
     refine cL.mono ?_
     rintro e w1 ⟨rfl,hb⟩
     have HB1:=lh hb
     have hl:=hlk _ hb
     have b0:w1.cell? ⟨Nt,0,none⟩=some (.map (some bk)):=hbt _ hb
     clear hb cL hlk hbt
     go_wp2_with fail
     refine(cF _).mono ?_
     rintro e w3 ⟨rfl,rfl⟩
     go_wp2_with fail
     go_ret
     exact⟨rfl,HB1.out⟩
   ·simp only[if_neg hc,Option.getD_none,Option.isSome_none] at hlk
    rw[newAt_no (by simpa using hc)] at hR
    have hin:inA a=true:=by unfold inA;exact decide_eq_true har
    have cF:=fun w=>FromAddress_any a w
    unfold frA at cF
    unfold frW at hR
    rw[hin,if_pos rfl] at hR cF
    obtain⟨z,hz⟩:∃ z,z=adW a:=⟨_,rfl⟩
    rw[← hz] at hR cF
    subst hR
    clear h ho hah hc hin hz
    go_enter Tryz.func57,Tryz.ntmps57
    go_wp2_with fail
    refine cL.mono ?_
    rintro e w1 ⟨rfl,hb⟩
    have HB1:=lh hb
    have hl:=hlk _ hb
    have b0:w1.cell? ⟨Nt,0,none⟩=some (.map (some bk)):=hbt _ hb
    clear hb cL hlk hbt
    go_wp2_with fail
    refine(cF _).mono ?_
    rintro e w3 ⟨rfl,rfl⟩
    go_wp2_with fail
    go_ret
    exact⟨rfl,HB1.out⟩
end
theorem naF_take {l ts:List Int} {j:Nat} {a:Int} (h:l[j]?=some a) (z:Int):(if z=a then some (newAt l ts a) else if (l.take j).contains z=true then some (newAt l ts z) else none)=if (l.take (j+1)).contains z=true then some (newAt l ts z) else none:=by
 rw[List.take_add_one,h]
 by_cases hz:z=a
 ·subst hz;simp
 ·rw[if_neg hz]
  have:((l.take j++(some a).toList).contains z=true)↔((l.take j).contains z=true):=by
   simp[hz]
  by_cases hc:(l.take j).contains z=true
  ·rw[if_pos hc,if_pos (this.2 hc)]
  ·rw[if_neg hc,if_neg (fun e=>hc (this.1 e))]
structure PlI (w:World) (I:World→Nat→Prop) (B g1 gy gs:Nat) (V2:Value) (m0:Mm) (top limit:Int) (l:List Int):Prop where
 i0:I w 0
 bel:∀ w1 w2 j,I w1 j→Below w1.heap.size w1 w2→I w2 j
 kp:∀ w1 w2 j bk n f,w.heap.size≤bk→I w1 j→MapI Tryz.prog 3 3 w1 bk n f→Kp (fun k=>k=bk) w1 w2→I w2 j
 mem:∀ w1 j,I w1 j→∃ m V1,MR w1 B g1 gy V1 V2 m∧∀ a∈l,m.hdr a=m0.hdr a∧m.idOf a=m0.idOf a
 al:∀ w1 j a,I w1 j→w.heap.size≤w1.heap.size→l[j]?=some a→Calls Tryz.prog 44 #[.pointer (some ⟨gs,0,none⟩),.agg #[.int .i64 (m0.hdr a).2.k,.int .i64 (m0.hdr a).2.c,.int .i64 (m0.hdr a).2.f],.agg #[.int .i64 (m0.idOf a).m,.int .i64 (m0.idOf a).s]] w1
  fun e w2=>(∃ S:Nat→Prop,Kp S w1 w2∧∀ q,S q→∃ t cs,Bk w1 q t cs∧(t=123 ∨ t=54))∧(top+m0.need (l.take (j+1))≤limit→e=.returned (.tuple #[.int .i64 (top+m0.need (l.take j)),.int .i64 0])∧I w2 (j+1))∧(¬ top+m0.need (l.take (j+1))≤limit→e=.returned (.tuple #[.int .i64 0,.int .i64 8])∧I w2 j)
def PlcP (w:World) (I:World→Nat→Prop) (m0:Mm) (top limit:Int) (l:List Int) (e:Ending) (w':World):Prop :=
 w.heap.size≤w'.heap.size∧(top+m0.need l≤limit→∃ bk n,e=.returned (.tuple #[.map (some bk),.int .i64 0])∧MapI Tryz.prog 3 3 w' bk n (naF l (m0.plc top l))∧I w' l.length∧w.heap.size≤bk)∧(¬ top+m0.need l≤limit→e=.returned (.tuple #[.map none,.int .i64 8])∧∃ j,I w' j)
section
variable {w:World} {I:World→Nat→Prop} {B Bl g1 gy gs c:Nat} {V2:Value} {m0:Mm} {top limit:Int} {l:List Int} {A:Option Addr}
set_option maxHeartbeats 8000000 in
theorem place_any (H:PlI w I B g1 gy gs V2 m0 top limit l) (hl:m0.OrdI l) (hr:∀ a∈l,0≤a∧a≤4294967295) (ht:0≤top∧limit≤4294967296∧top≤limit) (ho:w.ownsRow Bl 3 1 (.slice A l.length c) l.length (ints l)) (hll:l.length≤100000000) :
  Calls Tryz.prog 55 #[.agg #[.pointer (some ⟨g1,0,none⟩),.pointer (some ⟨gy,0,none⟩)],.pointer (some ⟨gs,0,none⟩),.slice A l.length c] w (PlcP w I m0 top limit l):=by
 have hmm:=@run_makeMap Tryz.prog
 obtain⟨Q,hQ⟩:∃ Q,Q=PlcP w I m0 top limit l:=⟨_,rfl⟩
 rw[← hQ]
 have HQ:=lh hQ
 have HH:=lh H
 have HL:=lh hl
 have HR:=lh hr
 have HT:=lh ht
 have HLL:=lh hll
 have hlc:l.length≤c:=by obtain⟨A',c',e,hc⟩:=own_shape ho;cases e;exact hc
 have hb0:Below w.heap.size w ((w.alloc (.cells #[.pointer (some ⟨g1,0,none⟩),.pointer (some ⟨gy,0,none⟩)] 29)).alloc (.map #[] 0)):=((Below.refl _ _).alloc (Nat.le_refl _) _).alloc (by simp) _
 have HI0:=lh (H.bel w _ 0 H.i0 hb0)
 have HO0:=lh (own_local ho fun k hk=>hb0.block k (ho.lt k hk).2)
 have HM0:Hid (Bk ((w.alloc (.cells #[.pointer (some ⟨g1,0,none⟩),.pointer (some ⟨gy,0,none⟩)] 29)).alloc (.map #[] 0)) w.heap.size 29 #[.pointer (some ⟨g1,0,none⟩),.pointer (some ⟨gy,0,none⟩)]):=lh ((Bk.new _ _ _).alloc _)
 have HMP0:Hid (MapI Tryz.prog 3 3 ((w.alloc (.cells #[.pointer (some ⟨g1,0,none⟩),.pointer (some ⟨gy,0,none⟩)] 29)).alloc (.map #[] 0)) (w.heap.size+1) 0 (fun _=>none)):=lh (by have:=MapI.made Tryz.prog 3 3 (w.alloc (.cells #[.pointer (some ⟨g1,0,none⟩),.pointer (some ⟨gy,0,none⟩)] 29));simp only[World.size_alloc] at this;exact this)
 have hsz0:=hb0.size
 clear H hl hr ho hQ ht hll hb0
 go_enter Tryz.func55,Tryz.ntmps55
 go_upto_region 2 with fail
 generalize (w.alloc (.cells #[.pointer (some ⟨g1,0,none⟩),.pointer (some ⟨gy,0,none⟩)] 29)).alloc (.map #[] 0)=w0 at *
 obtain⟨Nm,hNm⟩:∃ Nm,Nm=w.heap.size:=⟨_,rfl⟩
 obtain⟨bk,hbk⟩:∃ bk,bk=w.heap.size+1:=⟨_,rfl⟩
 rw[← hbk] at HMP0 ⊢
 rw[← hNm] at HM0 ⊢
 have HBK:Hid (w.heap.size≤bk):=lh (by omega)
 clear hNm hbk hmm
 go_wp2_with fail
 go_loopw [20] (fun i wr=>∃ j:Nat,i=.int .i64 (j:Int)∧j≤l.length∧I wr j∧MapI Tryz.prog 3 3 wr bk j (fun z=>if (l.take j).contains z=true then some (newAt l (m0.plc top l) z) else none)∧Bk wr Nm 29 #[.pointer (some ⟨g1,0,none⟩),.pointer (some ⟨gy,0,none⟩)]∧wr.ownsRow Bl 3 1 (.slice A l.length c) l.length (ints l)∧w.heap.size≤wr.heap.size∧top+m0.need (l.take j)≤limit) (fun i _=>l.length - (intOf i).toNat)
 case atStart=>exact⟨0,rfl,Nat.zero_le _,HI0.out,HMP0.out.congr fun x _=>by simp,HM0.out,HO0.out,hsz0,by have:=HT.out;simp[Mm.need];omega⟩
 case round =>
  clear HI0 HMP0 HM0 HO0
  obtain⟨j,rfl,hj,hi,hmp,hbm,hown,hsz,hfit⟩:=hrel
  have HI:=lh hi
  have HMP:=lh hmp
  have HBM:=lh hbm
  have HOW:=lh hown
  have HF:=lh hfit
  have hll:=HLL.out
  by_cases hlt:j < l.length
  ·obtain⟨bb,oo,rfl,hb1,hc1⟩:=(own_sl hown).get hlt
   have t1:l[j]?=some l[j]:=List.getElem?_eq_getElem hlt
   have e1:wr.cell? ⟨bb,oo+j,none⟩=some (.int .i64 l[j]):=hc1 j _ (ints_get t1)
   have hm:l[j]∈l:=List.getElem_mem hlt
   generalize l[j]=a at e1 t1 hm
   have hcc:j < c:=by omega
   have hra:=HR.out a hm
   have ha0:=(HL.out.ok a hm).1
   have m0c:wr.cell? ⟨Nm,0,none⟩=some (.pointer (some ⟨g1,0,none⟩)):=hbm.cell 0
   have m1c:wr.cell? ⟨Nm,1,none⟩=some (.pointer (some ⟨gy,0,none⟩)):=hbm.cell 1
   have HT1:=lh t1
   have hml:=hbm.lt
   -- reading
   have hmr:=HH.out.mem
   have HMR:=lh hmr
   obtain⟨m,V1,hM,hE⟩:=hmr wr j hi
   obtain⟨ea,eb⟩:=hE a hm
   have cH:=MHdr_of hM a
   rw[ea,ha0] at cH
   have HA:Hid (∀ w1,I w1 j→w.heap.size≤w1.heap.size→_):=lh (fun w1 h1 h2=>HH.out.al w1 j a h1 h2 t1)
   have HID:Hid (∀ w1,I w1 j→Calls Tryz.prog 23 #[.agg #[.pointer (some ⟨g1,0,none⟩),.pointer (some ⟨gy,0,none⟩)],.int .i64 a] w1 fun e w'=>e=.returned (.tuple #[.agg #[.int .i64 (m0.idOf a).m,.int .i64 (m0.idOf a).s],.int .i64 0])∧Below w1.heap.size w1 w'):=lh (fun w1 h1=>by
    obtain⟨m',V1',hM',hE'⟩:=HMR.out w1 j h1
    obtain⟨ea',eb'⟩:=hE' a hm
    have h3:=MID_yes hM' (a:=a) (by rw[ea'];exact ha0) (by omega)
    rw[eb'] at h3
    exact h3)
   have hwf:0≤top+m0.need (l.take j)∧top+m0.need (l.take j)≤4294967296:=by
    have h1:=HT.out
    have h2:=m0.need_nn (l.take j)
    omega
   have HNA:=lh (m0.plc_at HL.out.nd (t:=top) t1)
   have HNST:=lh (m0.need_step t1)
   obtain⟨na,hna⟩:∃ na,na=top+m0.need (l.take j):=⟨_,rfl⟩
   rw[← hna] at hwf HNA
   simp only[← hna] at HA
   obtain⟨hk,hkk⟩:∃ hk,hk=(m0.hdr a).2.k:=⟨_,rfl⟩
   obtain⟨hcl,hkc⟩:∃ hcl,hcl=(m0.hdr a).2.c:=⟨_,rfl⟩
   obtain⟨hf,hkf⟩:∃ hf,hf=(m0.hdr a).2.f:=⟨_,rfl⟩
   obtain⟨im,him⟩:∃ im,im=(m0.idOf a).m:=⟨_,rfl⟩
   obtain⟨is_,his⟩:∃ is_,is_=(m0.idOf a).s:=⟨_,rfl⟩
   simp only[← hkk,← hkc,← hkf,← him,← his] at cH HA HID
   have HWA:Hid ((Lit.int .i64 a).wf=true):=lh (WalkArith.wf_i64 (by omega))
   have HWN:Hid ((Lit.int .i64 na).wf=true):=lh (WalkArith.wf_i64 (by omega))
   clear t1 hc1 hi hmp hbm hown hfit hM hE ea eb hmr HMR hkk hkc hkf him his hna hm ha0
   go_wp2_with fail
   refine cH.mono ?_
   rintro e w1 ⟨rfl,hb⟩
   have hbx:=hb.trans (((Below.refl w1.heap.size w1).alloc (Nat.le_refl _) (.cells #[.int .i64 hk,.int .i64 hcl,.int .i64 hf] 58)).mono hb.size)
   clear cH m0c m1c
   go_upto_region 6 with fail
   have HB1:=lh hbx
   have HHD:Hid (Bk (w1.alloc (.cells #[.int .i64 hk,.int .i64 hcl,.int .i64 hf] 58)) w1.heap.size 58 #[.int .i64 hk,.int .i64 hcl,.int .i64 hf]):=lh (Bk.new _ _ _)
   clear hbx hb
   generalize hNh:w1.heap.size=Nh at *
   generalize w1.alloc (.cells #[.int .i64 hk,.int .i64 hcl,.int .i64 hf] 58)=w2 at *
   clear hNh
   have HI2:=lh (HH.out.bel _ _ _ HI.out HB1.out)
   have HMP2:=lh (HMP.out.block (HB1.out.block _ HMP.out.lt))
   have HBM2:=lh (HBM.out.below HB1.out HBM.out.lt)
   have HOW2:=lh (own_local HOW.out fun k hk=>HB1.out.block k (HOW.out.lt k hk).2)
   have hsz2:w.heap.size≤w2.heap.size:=by have:=HB1.out.size;omega
   have m0c:w2.cell? ⟨Nm,0,none⟩=some (.pointer (some ⟨g1,0,none⟩)):=HBM2.out.cell 0
   have m1c:w2.cell? ⟨Nm,1,none⟩=some (.pointer (some ⟨gy,0,none⟩)):=HBM2.out.cell 1
   have cI:=HID.out w2 HI2.out
   clear HI HMP HBM HOW HB1
   go_wp2_with fail
   refine cI.mono ?_
   rintro e w3 ⟨rfl,hb⟩
   have hbx:=hb.trans (((Below.refl w3.heap.size w3).alloc (Nat.le_refl _) (.cells #[.int .i64 im,.int .i64 is_] 65)).mono hb.size)
   clear cI m0c m1c
   go_upto_region 7 with fail
   have HB3:=lh hbx
   have HID3:Hid (Bk (w3.alloc (.cells #[.int .i64 im,.int .i64 is_] 65)) w3.heap.size 65 #[.int .i64 im,.int .i64 is_]):=lh (Bk.new _ _ _)
   clear hbx hb
   generalize hNi:w3.heap.size=Ni at *
   generalize w3.alloc (.cells #[.int .i64 im,.int .i64 is_] 65)=w4 at *
   clear hNi
   have HI4:=lh (HH.out.bel _ _ _ HI2.out HB3.out)
   have HMP4:=lh (HMP2.out.block (HB3.out.block _ HMP2.out.lt))
   have HBM4:=lh (HBM2.out.below HB3.out HBM2.out.lt)
   have HHD4:=lh (HHD.out.below HB3.out HHD.out.lt)
   have HOW4:=lh (own_local HOW2.out fun k hk=>HB3.out.block k (HOW2.out.lt k hk).2)
   have hsz4:w.heap.size≤w4.heap.size:=by have:=HB3.out.size;omega
   have h0:w4.cell? ⟨Nh,0,none⟩=some (.int .i64 hk):=HHD4.out.cell 0
   have h1:w4.cell? ⟨Nh,1,none⟩=some (.int .i64 hcl):=HHD4.out.cell 1
   have h2:w4.cell? ⟨Nh,2,none⟩=some (.int .i64 hf):=HHD4.out.cell 2
   have i0:w4.cell? ⟨Ni,0,none⟩=some (.int .i64 im):=HID3.out.cell 0
   have i1:w4.cell? ⟨Ni,1,none⟩=some (.int .i64 is_):=HID3.out.cell 1
   have HCA:=lh (HA.out w4 HI4.out hsz4)
   clear HI2 HMP2 HBM2 HOW2 HB3 hsz2 HHD HA HID HID3
   by_cases hfit:top+m0.need (l.take (j+1))≤limit
   ·go_wp2_with fail
    refine(HCA.out.mono fun e w2 h=>And.intro h.1 (h.2.1 hfit)).mono ?_
    rintro e w5 ⟨⟨S,hkp,hS⟩,rfl,hi5⟩
    have HI5:=lh hi5
    have HMP5:=lh (HMP4.out.block (hkp.block _ HMP4.out.lt fun e=>by obtain⟨t,cs,hb,_⟩:=hS _ e;exact HMP4.out.ne_bk hb rfl))
    have HBM5:=lh (HBM4.out.kp hkp fun e=>by obtain⟨t,cs,hb,ht⟩:=hS _ e;exact Bk.neT HBM4.out hb (by rcases ht with rfl | rfl <;> decide) rfl)
    have HOW5:=lh (own_local HOW4.out fun k hk=>hkp.block k (HOW4.out.lt k hk).2 fun e=>by obtain⟨t,cs,hb,ht⟩:=hS _ e;exact ownRow_bk HOW4.out hb (by rcases ht with rfl | rfl <;> decide) hk)
    have hsz5:w.heap.size≤w5.heap.size:=by have:=hkp.size;omega
    clear hkp hS hi5 h0 h1 h2 i0 i1 HHD4
    go_wp2_with (refine wpList_map_put hKI hKI hMI rfl (m:=.tmp 46) (x:=.tmp 47) (v:=.tmp 48) rfl HMP5.out (by have:=HLL.out;unfold maxLen;omega) rfl rfl rfl HWA.out HWN.out ?_;intro w6 hm6 hg6;have HM6:=lh hm6;have HG6:=lh hg6;clear hm6 hg6)
    go_roundw
    case rel =>
     refine⟨j+1,by go_num,by omega,HH.out.kp _ _ _ _ _ _ HBK.out HI5.out HMP5.out (Kp.of_grown HG6.out fun k hk=>by cases hk;rfl),HM6.out.congr fun x _=>?_,HBM5.out.grown HG6.out (fun e=>HMP5.out.ne_bk HBM5.out (Option.some.inj e)),own_local HOW5.out fun k hk=>HG6.out.block k (HOW5.out.lt k hk).2 (fun e=>HMP5.out.ne_own HOW5.out (by rw[hk,e])),by have:=HG6.out.size;omega,hfit⟩
     have h9:=naF_take (ts:=m0.plc top l) HT1.out x
     rw[HNA.out] at h9
     exact h9
    case measure=>simp[intOf];omega
   ·go_wp2_with fail
    refine(HCA.out.mono fun e w2 h=>And.intro h.1 (h.2.2 hfit)).mono ?_
    rintro e w5 ⟨⟨S,hkp,hS⟩,rfl,hi5⟩
    have HI5:=lh hi5
    have hsz5:w.heap.size≤w5.heap.size:=by have:=hkp.size;omega
    clear hkp hS hi5 h0 h1 h2 i0 i1 HHD4
    go_wp2_with fail
    show Q (.returned (.tuple #[.map none,.int .i64 8])) w5
    rw[HQ.out]
    have hn:¬ top+m0.need l≤limit:=by
     have h3:=m0.need_app (l.take (j+1)) (l.drop (j+1))
     rw[List.take_append_drop] at h3
     have:=m0.need_nn (l.drop (j+1))
     omega
    exact⟨hsz5,fun h=>absurd h hn,fun _=>⟨rfl,j,HI5.out⟩⟩
  ·obtain rfl:j=l.length:=by omega
   go_wp2_with fail
   show Q (.returned (.tuple #[.map (some bk),.int .i64 0])) wr
   rw[HQ.out]
   have hfit2:=HF.out
   rw[List.take_length] at hfit2
   refine⟨hsz,fun _=>⟨bk,_,rfl,HMP.out.congr fun x _=>?_,HI.out,HBK.out⟩,fun h=>absurd hfit2 h⟩
   rw[List.take_length]
   rfl
end
end
section
open Go.RowKit Go.Maps
attribute [local go_sem] Oper.semAt_some
theorem Mm.mvd_u (m:Mm) (l ts:List Int) {x:Int} (hx:U64 x):U64 (m.mvd l ts x):=by
 unfold Mm.mvd
 split
 ·exact frW_u _
 ·exact hx
/-- a word of an object in the copying -/
structure CpI (m0:Mm) (l U:List Int) (i:Nat) (a:Int):Prop where
 ok:m0.Ok
 hl:m0.OrdI l
 hu:UpdI m0 l (m0.plc m0.old.top l) U
 hf:m0.old.top+m0.need l≤m0.old.limit
 ha:l[i]?=some a
 met:∀ x∈m0.slW a,m0.Met l x
section
variable {m0:Mm} {l U:List Int} {i:Nat} {a:Int}
theorem CpI.hdr (h:CpI m0 l U i a) {Z:List Int} (hz:LaidZ m0 l Z):(m0.mid U Z).hdr a=m0.hdr a∧(m0.hdr a).1=0∧(m0.mid U Z).Ok :=
 ⟨mid_hd h.ok h.hu hz h.hf (h.hl.ok a (List.mem_of_getElem? h.ha)).1,(h.hl.ok a (List.mem_of_getElem? h.ha)).1,mid_Ok h.ok h.hu hz h.hf⟩
theorem CpI.rg (h:CpI m0 l U i a):16777216≤a∧a≤4294967295∧0≤m0.old.top+m0.need (l.take i)∧m0.old.top+m0.need (l.take i)≤16777216:=by
 have h1:=h.hl.ok a (List.mem_of_getElem? h.ha)
 have h2:=hdr_rg h.ok h1.1
 have h3:=m0.need_le h.ha
 have h4:=m0.need_nn (l.take i)
 have h5:=h.ok.ol
 have h6:=h.hf
 have h8:=wH_bound (m0.hdr a).2
 have h7:0≤m0.old.top:=by unfold Spc.top;rw[h.ok.ob];omega
 exact⟨h1.2.2,h2.2,by omega,by omega⟩
theorem CpI.step (h:CpI m0 l U i a) {k:Nat} (hz:LaidZ m0 l (m0.zK l (m0.plc m0.old.top l) i a k)) (h2:2≤k) (hk:(k:Int) < wH (m0.hdr a).2) :
  ∃ x,(m0.mid U (m0.zK l (m0.plc m0.old.top l) i a k)).at_ (a+(k:Int))=some x∧U64 x∧∃ y,U64 y∧((k:Int) < 2+slotN (m0.hdr a).2→y=(m0.mid U (m0.zK l (m0.plc m0.old.top l) i a k)).mvd l (m0.plc m0.old.top l) x)∧(¬ (k:Int) < 2+slotN (m0.hdr a).2→y=x) ∧
   (m0.mid U (m0.zK l (m0.plc m0.old.top l) i a k)).put (m0.old.top+m0.need (l.take i)+(k:Int)) y=m0.mid U (m0.zK l (m0.plc m0.old.top l) i a (k+1))∧LaidZ m0 l (m0.zK l (m0.plc m0.old.top l) i a (k+1)):=by
 have hm:=List.mem_of_getElem? h.ha
 obtain⟨h0,h4,hy⟩:=h.hl.ok a hm
 have hyy:=h.hl.yng h.ok a hm
 have hzl:=Mm.zK_len h.hl (m0.plc m0.old.top l) h.ha (k:=k) (by omega)
 have hnr:=h.ok.has_near h0 (j:=(k:Int)) (by omega) hk
 have hsa:=((mid_sp h.ok h.hu.len hzl h.hf a).2 hyy).2
 have hyk:m0.yng.has (a+(k:Int))=true:=by
  have:=hnr.1
  unfold Mm.has at this
  rw[hnr.2,hsa] at this
  exact this
 obtain⟨e1,e2⟩:=(mid_sp (Z:=m0.zK l (m0.plc m0.old.top l) i a k) h.ok h.hu.len hzl h.hf (a+(k:Int))).2 hyk
 obtain⟨_,_,_,x,_,hx⟩:=Spc.at_some hyk
 have hx0:m0.at_ (a+(k:Int))=some x:=by unfold Mm.at_;rw[e2];exact hx
 have hx1:(m0.mid U (m0.zK l (m0.plc m0.old.top l) i a k)).at_ (a+(k:Int))=some x:=by unfold Mm.at_;rw[e1];exact hx
 have hxu:=h.ok.y.at_u hx
 have hmid:=Mid.of h.ok h.hl h.hu hz h.hf
 have hg:=m0.cpy_get l (m0.plc m0.old.top l) a hk
 rw[hx0,Option.getD_some] at hg
 have key:∀ y,U64 y→(m0.cpy l (m0.plc m0.old.top l) a)[k]?=some y→(m0.mid U (m0.zK l (m0.plc m0.old.top l) i a k)).put (m0.old.top+m0.need (l.take i)+(k:Int)) y=m0.mid U (m0.zK l (m0.plc m0.old.top l) i a (k+1))∧LaidZ m0 l (m0.zK l (m0.plc m0.old.top l) i a (k+1)):=fun y hyu hyg=>by
  have h5:=m0.need_nn (l.take i)
  have h6:=m0.need_le h.ha
  have h7:=Mm.zK_set h.hl (m0.plc m0.old.top l) h.ha hk hyg
  have h8:m0.old.top+m0.need (l.take i)+(k:Int)=m0.old.top+(((m0.need (l.take i)).toNat+k:Nat):Int):=by omega
  refine⟨?_,?_⟩
  ·rw[h8,mid_put_new h.ok h.hu.len (by omega),h7]
  ·rw[← h7]
   exact LaidZ.set h.hl hz h.ha h2 hk hyu
 refine⟨x,hx1,hxu,?_⟩
 by_cases hs:(k:Int) < 2+slotN (m0.hdr a).2
 ·have hmet:m0.Met l x:=h.met x (by
   unfold Mm.slW
   refine List.mem_map.2 ⟨k - 2,List.mem_range.2 (by omega),?_⟩
   rw[show a+2+((k - 2:Nat):Int)=a+(k:Int) by omega,hx0]
   rfl)
  have hmv:=Mid.mvd h.ok h.hl hmid hmet.1 hmet.2
  rw[if_pos ⟨h2,hs⟩] at hg
  exact⟨_,m0.mvd_u l _ hxu,fun _=>hmv.symm,fun e=>absurd hs e,key _ (m0.mvd_u l _ hxu) hg⟩
 ·rw[if_neg (fun e=>hs e.2)] at hg
  exact⟨x,hxu,fun e=>absurd e hs,fun _=>rfl,key _ hxu hg⟩
end
section
variable {w w':World} {B Nm Nt bk n g1 gy:Nat} {V1 V2:Value} {m m':Mm} {l ts:List Int}
theorem MvW.kpM (h:MvW w B Nm Nt bk n g1 gy V1 V2 m l ts) (hm:MR w' B g1 gy V1 V2 m') (hk:Kp (memS V1 V2) w w'):MvW w' B Nm Nt bk n g1 gy V1 V2 m' l ts:=by
 have nb:∀ {q:Nat} {t:TypeId} {cs:Array Value},Bk w q t cs→t≠54→¬ memS V1 V2 q:=fun hb ht e=>e.elim (h.mr.o.own_ne hb ht) (h.mr.y.own_ne hb ht)
 exact⟨hm,h.bm.kp hk (nb h.bm (by decide)),h.bt.kp hk (nb h.bt (by decide)),h.mp.block (hk.block _ h.mp.lt fun e=>e.elim (h.mp.ne_own h.mr.o.own) (h.mp.ne_own h.mr.y.own))⟩
end
def CopP (w:World) (B Nm Nt bk n g1 gy:Nat) (V1 V2:Value) (m:Mm) (l ts:List Int) (Zp:Prop) (e:Ending) (w':World):Prop :=
 e=.returned (.tuple #[])∧MvW w' B Nm Nt bk n g1 gy V1 V2 m l ts∧Zp∧Kp (memS V1 V2) w w'
section
variable {w:World} {B Nm Nt bk n g1 gy:Nat} {V1 V2:Value} {m0:Mm} {l U:List Int} {i:Nat} {a:Int}
set_option maxHeartbeats 8000000 in
theorem copyObject_any (h:CpI m0 l U i a) (hz:LaidZ m0 l (m0.zI l (m0.plc m0.old.top l) i)) (H:MvW w B Nm Nt bk n g1 gy V1 V2 (m0.mid U (m0.zI l (m0.plc m0.old.top l) i)) l (m0.plc m0.old.top l)) :
  Calls Tryz.prog 60 #[.agg #[.pointer (some ⟨g1,0,none⟩),.pointer (some ⟨gy,0,none⟩)],.int .i64 a,.int .i64 (m0.old.top+m0.need (l.take i)),.func (.func 57) #[] #[.pointer (some ⟨Nm,0,none⟩),.pointer (some ⟨Nt,0,none⟩)]] w
   (CopP w B Nm Nt bk n g1 gy V1 V2 (m0.mid U (m0.zI l (m0.plc m0.old.top l) (i+1))) l (m0.plc m0.old.top l) (LaidZ m0 l (m0.zI l (m0.plc m0.old.top l) (i+1)))):=by
 obtain⟨ehd,h0,_⟩:=h.hdr hz
 have hrg:=h.rg
 have hvh:=Mm.hdr_valid h0
 have hwg:=wH_ge hvh
 have hwb:=wH_bound (m0.hdr a).2
 have HC:=lh h
 obtain⟨Q,hQ⟩:∃ Q,Q=CopP w B Nm Nt bk n g1 gy V1 V2 (m0.mid U (m0.zI l (m0.plc m0.old.top l) (i+1))) l (m0.plc m0.old.top l) (LaidZ m0 l (m0.zI l (m0.plc m0.old.top l) (i+1))):=⟨_,rfl⟩
 rw[← hQ]
 have HQ:=lh hQ
 have hb0:Below w.heap.size w (w.alloc (.cells #[.pointer (some ⟨g1,0,none⟩),.pointer (some ⟨gy,0,none⟩)] 29)):=(Below.refl _ _).alloc (Nat.le_refl _) _
 rw[← Mm.zK_two m0 l _ h.ha h0] at H hz
 have HV0:=lh (H.below hb0)
 have HZ:=lh hz
 have HM0:Hid (Bk (w.alloc (.cells #[.pointer (some ⟨g1,0,none⟩),.pointer (some ⟨gy,0,none⟩)] 29)) w.heap.size 29 #[.pointer (some ⟨g1,0,none⟩),.pointer (some ⟨gy,0,none⟩)]):=lh (Bk.new _ _ _)
 have HB0:=lh hb0
 have cH:=MHdr_of HV0.out.mr a
 have hsz0:=hb0.size
 rw[Mm.zK_two m0 l _ h.ha h0,ehd,h0] at cH
 have EHD:=lh ehd
 have HWW:=lh hwg
 obtain⟨⟨hk,hc,hf⟩,hhd⟩:∃ hd,hd=(m0.hdr a).2:=⟨_,rfl⟩
 rw[← hhd] at cH hwg hwb
 have HHD:=lh hhd
 have cW:=fun w=>Words_of ⟨hk,hc,hf⟩ w
 dsimp only at cH cW
 obtain⟨wn,hwn⟩:∃ wn:Nat,(wn:Int)=wH ⟨hk,hc,hf⟩:=⟨(wH ⟨hk,hc,hf⟩).toNat,by omega⟩
 rw[← hwn] at cW hwg hwb
 have HWN:=lh hwn
 obtain⟨sn,hsn⟩:∃ sn:Nat,sn=(slotN ⟨hk,hc,hf⟩).toNat:=⟨_,rfl⟩
 have HSN:=lh hsn
 have hsn2:(sn:Int)=slotN ⟨hk,hc,hf⟩:=by
  have h1:=vH_bound hvh
  rw[← hhd] at h1
  dsimp only at h1
  have:0≤slotN ⟨hk,hc,hf⟩:=by unfold slotN;split <;> (try split) <;> (try dsimp only) <;> omega
  omega
 have HSN2:=lh hsn2
 obtain⟨tq,hto⟩:∃ tq,tq=m0.old.top+m0.need (l.take i):=⟨_,rfl⟩
 rw[← hto] at hrg ⊢
 have HTO:=lh hto
 have hsb:sn≤32:=by
  have h1:=vH_bound hvh
  rw[← hhd] at h1
  dsimp only at h1
  have:slotN ⟨hk,hc,hf⟩≤32:=by unfold slotN;split <;> (try split) <;> (try dsimp only) <;> omega
  omega
 clear h hz H hb0 hQ ehd h0 hvh hhd hwn hsn hsn2 hto
 go_enter Tryz.func60,Tryz.ntmps60
 go_upto_region 1 with fail
 generalize w.alloc (.cells #[.pointer (some ⟨g1,0,none⟩),.pointer (some ⟨gy,0,none⟩)] 29)=w0 at *
 obtain⟨Nx,hNx⟩:∃ Nx,Nx=w.heap.size:=⟨_,rfl⟩
 rw[← hNx] at HM0 ⊢
 clear hNx
 have m0c:w0.cell? ⟨Nx,0,none⟩=some (.pointer (some ⟨g1,0,none⟩)):=HM0.out.cell 0
 have m1c:w0.cell? ⟨Nx,1,none⟩=some (.pointer (some ⟨gy,0,none⟩)):=HM0.out.cell 1
 go_wp2_with fail
 refine cH.mono ?_
 rintro e w1 ⟨rfl,hb⟩
 have hbx:=hb.trans (((Below.refl w1.heap.size w1).alloc (Nat.le_refl _) (.cells #[.int .i64 hk,.int .i64 hc,.int .i64 hf] 58)).mono hb.size)
 clear cH m0c m1c
 go_upto_region 2 with fail
 have HHB:Hid (Bk (w1.alloc (.cells #[.int .i64 hk,.int .i64 hc,.int .i64 hf] 58)) w1.heap.size 58 #[.int .i64 hk,.int .i64 hc,.int .i64 hf]):=lh (Bk.new _ _ _)
 have HV1:=lh (HV0.out.below hbx)
 have HM1:=lh (HM0.out.below hbx HM0.out.lt)
 have HB1:=lh (HB0.out.trans (hbx.mono HB0.out.size))
 clear hbx hb HV0 HM0 HB0
 generalize hNh:w1.heap.size=Nh at *
 generalize w1.alloc (.cells #[.int .i64 hk,.int .i64 hc,.int .i64 hf] 58)=w2 at *
 clear hNh
 have m0c:w2.cell? ⟨Nx,0,none⟩=some (.pointer (some ⟨g1,0,none⟩)):=HM1.out.cell 0
 have m1c:w2.cell? ⟨Nx,1,none⟩=some (.pointer (some ⟨gy,0,none⟩)):=HM1.out.cell 1
 have cS:=nslots_any HV1.out.mr a
 have hsl:=Mm.slA_len (m0.mid U (m0.zK l (m0.plc m0.old.top l) i a 2)) a
 generalize (m0.mid U (m0.zK l (m0.plc m0.old.top l) i a 2)).slA a=sl at cS hsl
 go_wp2_with fail
 refine cS.mono ?_
 rintro e w3 ⟨v,rfl,hown,hb⟩
 obtain⟨As,cs_,rfl,_⟩:=own_shape hown
 have hslen:sl.length=sn:=by
  rw[hsl,Mm.zK_two m0 l _ HC.out.ha (HC.out.hl.ok a (List.mem_of_getElem? HC.out.ha)).1,EHD.out,← HHD.out,HSN.out]
 rw[hslen]
 have HV3:=lh (HV1.out.below hb)
 have HM3:=lh (HM1.out.below hb HM1.out.lt)
 have HH3:=lh (HHB.out.below hb HHB.out.lt)
 have HB3:=lh (HB1.out.trans (hb.mono HB1.out.size))
 clear cS hown hb HV1 HM1 HHB HB1 m0c m1c hslen hsl EHD
 go_wp2_with fail
 go_loopw [11] (fun i' wr=>∃ k:Nat,i'=.int .i64 (k:Int)∧2≤k∧k≤wn∧MvW wr B Nm Nt bk n g1 gy V1 V2 (m0.mid U (m0.zK l (m0.plc m0.old.top l) i a k)) l (m0.plc m0.old.top l)∧LaidZ m0 l (m0.zK l (m0.plc m0.old.top l) i a k)∧Bk wr Nx 29 #[.pointer (some ⟨g1,0,none⟩),.pointer (some ⟨gy,0,none⟩)]∧Bk wr Nh 58 #[.int .i64 hk,.int .i64 hc,.int .i64 hf]∧Kp (memS V1 V2) w wr) (fun i' _=>wn - (intOf i').toNat)
 case atStart=>exact⟨2,rfl,Nat.le_refl _,by omega,HV3.out,HZ.out,HM3.out,HH3.out,Kp.of_below HB3.out⟩
 case round =>
  clear HV3 HZ HM3 HH3 HB3
  obtain⟨k,rfl,hk2,hkw,hv,hz,hbm,hbh,hkp⟩:=hrel
  have HV:=lh hv
  have HZ:=lh hz
  have HM:=lh hbm
  have HH:=lh hbh
  have HK:=lh hkp
  have c0:wr.cell? ⟨Nh,0,none⟩=some (.int .i64 hk):=hbh.cell 0
  have c1:wr.cell? ⟨Nh,1,none⟩=some (.int .i64 hc):=hbh.cell 1
  have c2:wr.cell? ⟨Nh,2,none⟩=some (.int .i64 hf):=hbh.cell 2
  clear hv hz hbm hbh hkp
  by_cases hlt:k < wn
  ·have hltI:(k:Int) < (wn:Int):=by omega
   have hst:=HC.out.step HZ.out hk2 (by rw[← HHD.out,← HWN.out];exact hltI)
   rw[← HHD.out,← HSN2.out,← HTO.out] at hst
   obtain⟨x,hx,hxu,y,hyu,hy1,hy2,hput,hz'⟩:=hst
   have HX:=lh hx
   have HXU:=lh hxu
   have HYU:=lh hyu
   have HPUT:=lh hput
   have HZ':=lh hz'
   have HY:=lh (And.intro hy1 hy2)
   clear hx hxu hyu hput hz' hy1 hy2
   go_wp2_with fail
   refine(cW _).mono ?_
   rintro e w4 ⟨rfl,hb⟩
   have HV4:=lh (HV.out.below hb)
   have HM4:=lh (HM.out.below hb HM.out.lt)
   have HH4:=lh (HH.out.below hb HH.out.lt)
   have HK4:=lh (HK.out.trans (Kp.of_below (S:=memS V1 V2) hb) fun _ _ e=>e)
   have m0c:w4.cell? ⟨Nx,0,none⟩=some (.pointer (some ⟨g1,0,none⟩)):=HM4.out.cell 0
   have m1c:w4.cell? ⟨Nx,1,none⟩=some (.pointer (some ⟨gy,0,none⟩)):=HM4.out.cell 1
   have cL:=MLoad_of HV4.out.mr (a+(k:Int))
   rw[HX.out] at cL
   simp only[atV] at cL
   clear hb HV HM HH HK c0 c1 c2
   go_wp2_with fail
   refine cL.mono ?_
   rintro e w5 ⟨rfl,hb⟩
   have HV5:=lh (HV4.out.below hb)
   have HM5:=lh (HM4.out.below hb HM4.out.lt)
   have HH5:=lh (HH4.out.below hb HH4.out.lt)
   have HK5:=lh (HK4.out.trans (Kp.of_below (S:=memS V1 V2) hb) fun _ _ e=>e)
   have m0c:w5.cell? ⟨Nx,0,none⟩=some (.pointer (some ⟨g1,0,none⟩)):=HM5.out.cell 0
   have m1c:w5.cell? ⟨Nx,1,none⟩=some (.pointer (some ⟨gy,0,none⟩)):=HM5.out.cell 1
   clear hb cL HV4 HM4 HH4 HK4
   by_cases hs:(k:Int) < 2+(sn:Int)
   ·have hy:=HY.out.1 hs
    have cM:=moved_any HV5.out HXU.out
    rw[← hy] at cM
    clear hy HX
    go_wp2_with fail
    refine cM.mono ?_
    rintro e w6 ⟨rfl,hb⟩
    have HV6:=lh (HV5.out.below hb)
    have HM6:=lh (HM5.out.below hb HM5.out.lt)
    have HH6:=lh (HH5.out.below hb HH5.out.lt)
    have HK6:=lh (HK5.out.trans (Kp.of_below (S:=memS V1 V2) hb) fun _ _ e=>e)
    have m0c:w6.cell? ⟨Nx,0,none⟩=some (.pointer (some ⟨g1,0,none⟩)):=HM6.out.cell 0
    have m1c:w6.cell? ⟨Nx,1,none⟩=some (.pointer (some ⟨gy,0,none⟩)):=HM6.out.cell 1
    have cSt:=MStore_any HV6.out.mr (tq+(k:Int)) HYU.out
    unfold memV at cSt
    clear hb cM HV5 HM5 HH5 HK5
    go_wp2_with fail
    refine cSt.mono ?_
    rintro e w7 ⟨rfl,hm7,hk7⟩
    have HV7:=lh (HV6.out.kpM hm7 hk7)
    have hnb:∀ {q:Nat} {t:TypeId} {cs:Array Value},Bk w6 q t cs→t≠54→¬ memS V1 V2 q:=fun hb ht e=>e.elim (HV6.out.mr.o.own_ne hb ht) (HV6.out.mr.y.own_ne hb ht)
    have HM7:=lh (HM6.out.kp hk7 (hnb HM6.out (by decide)))
    have HH7:=lh (HH6.out.kp hk7 (hnb HH6.out (by decide)))
    have HK7:=lh (HK6.out.trans hk7 fun _ _ e=>e)
    clear cSt hm7 hk7 hnb
    go_wp2_with fail
    go_roundw
    case rel =>
     refine⟨k+1,by go_num,by omega,by omega,?_,HZ'.out,HM7.out,HH7.out,HK7.out⟩
     have h9:=HV7.out
     have e9:((m0.mid U (m0.zK l (m0.plc m0.old.top l) i a k)).store (tq+(k:Int)) y).2=m0.mid U (m0.zK l (m0.plc m0.old.top l) i a (k+1)):=HPUT.out
     rw[e9] at h9
     exact h9
    case measure=>simp[intOf];omega
   ·have hy:=HY.out.2 (by omega)
    rw[hy] at HYU HPUT
    have cSt:=MStore_any HV5.out.mr (tq+(k:Int)) HYU.out
    unfold memV at cSt
    clear hy HX
    go_wp2_with fail
    refine cSt.mono ?_
    rintro e w7 ⟨rfl,hm7,hk7⟩
    have HV7:=lh (HV5.out.kpM hm7 hk7)
    have hnb:∀ {q:Nat} {t:TypeId} {cs:Array Value},Bk w5 q t cs→t≠54→¬ memS V1 V2 q:=fun hb ht e=>e.elim (HV5.out.mr.o.own_ne hb ht) (HV5.out.mr.y.own_ne hb ht)
    have HM7:=lh (HM5.out.kp hk7 (hnb HM5.out (by decide)))
    have HH7:=lh (HH5.out.kp hk7 (hnb HH5.out (by decide)))
    have HK7:=lh (HK5.out.trans hk7 fun _ _ e=>e)
    clear cSt hm7 hk7 hnb
    go_wp2_with fail
    go_roundw
    case rel =>
     refine⟨k+1,by go_num,by omega,by omega,?_,HZ'.out,HM7.out,HH7.out,HK7.out⟩
     have h9:=HV7.out
     have e9:((m0.mid U (m0.zK l (m0.plc m0.old.top l) i a k)).store (tq+(k:Int)) x).2=m0.mid U (m0.zK l (m0.plc m0.old.top l) i a (k+1)):=HPUT.out
     rw[e9] at h9
     exact h9
    case measure=>simp[intOf];omega
  ·obtain rfl:k=wn:=by omega
   have hltI:¬ (k:Int) < (k:Int):=by omega
   have HE:=lh (Mm.zK_end m0 l (m0.plc m0.old.top l) HC.out.ha (HC.out.hl.ok a (List.mem_of_getElem? HC.out.ha)).1 (k:=k) (by rw[← HHD.out];exact HWN.out))
   go_wp2_with fail
   refine(cW _).mono ?_
   rintro e w4 ⟨rfl,hb⟩
   have HV4:=lh (HV.out.below hb)
   have HK4:=lh (HK.out.trans (Kp.of_below (S:=memS V1 V2) hb) fun _ _ e=>e)
   clear hb
   go_wp2_with fail
   go_end0
   rw[HQ.out]
   have h9:=HV4.out
   have h8:=HZ.out
   rw[HE.out] at h9 h8
   exact⟨rfl,h9,h8,HK4.out⟩
end
end
end Go.Proofs.YtaijmgkjbbiboaaGreat
