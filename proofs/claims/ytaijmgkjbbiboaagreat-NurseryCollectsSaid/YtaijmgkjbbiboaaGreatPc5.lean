/- Parts of the proof: Obj. -/
import Derived.Laws.StructEq
import Derived.Test.YtaijmgkjbbiboaaGreatPcA
import Derived.Test.YtaijmgkjbbiboaaGreatPc0
import Derived.Test.YtaijmgkjbbiboaaGreatPc4
set_option linter.unusedVariables false
set_option linter.unusedSimpArgs false
set_option linter.unusedSectionVars false
set_option maxRecDepth 100000
namespace Go.Proofs.YtaijmgkjbbiboaaGreat
section
open Go.RowKit Go.Sort
def memV (g1 g2:Nat):Value:=.agg #[.pointer (some ⟨g1,0,none⟩),.pointer (some ⟨g2,0,none⟩)]
def atV (o:Option Int):Value:=match o with | some x=>.tuple #[.int .u64 x,.int .i64 0] | none=>.tuple #[.int .u64 0,.int .i64 2]
theorem ldV_eq (s:Spc) (a:Int):ldV s a=atV (s.at_ a):=rfl
/-- the memory m lies behind two pointers -/
structure MR (w:World) (B g1 g2:Nat) (V1 V2:Value) (m:Mm):Prop where
 o:SpR w B g1 m.old V1
 y:SpR w B g2 m.yng V2
 ok:m.Ok
 gg:g1≠g2
 vv:∀ k,V1.ownBlock=some k→V2.ownBlock≠some k
theorem MR.below {w w':World} {B g1 g2:Nat} {V1 V2:Value} {m:Mm} (h:MR w B g1 g2 V1 V2 m) (hb:Below w.heap.size w w'):MR w' B g1 g2 V1 V2 m:=⟨h.o.below hb,h.y.below hb,h.ok,h.gg,h.vv⟩
theorem SpR.kp {S:Nat→Prop} {w w':World} {B g:Nat} {s:Spc} {V:Value} (h:SpR w B g s V) (hb:Kp S w w') (h1:¬ S g) (h2:∀ k,V.ownBlock=some k→¬ S k):SpR w' B g s V :=
 ⟨h.hd.kp hb h1,own_local h.own fun k hk=>hb.block k (h.own.lt k hk).2 (h2 k hk),h.ge,h.u,h.b0,h.lim,h.l0⟩
theorem SpR.own_ne {w:World} {B g g':Nat} {s:Spc} {V:Value} {cs:Array Value} {t:TypeId} (h:SpR w B g s V) (hk:Bk w g' t cs) (ht:t≠54):V.ownBlock≠some g':=fun he=>by
 obtain⟨_,⟨rfl,_⟩ | ⟨g2,cap,cur,rfl,_,h4,_⟩⟩:=h.own
 ·cases he
 ·injection he with he
  change g2=g' at he
  rw[he] at h4
  unfold Bk at hk
  rw[hk] at h4
  injection h4 with h4
  injection h4 with _ h4
  exact ht h4
theorem boxM (w:World) (g1 g2:Nat):Below w.heap.size w (w.alloc (.cells #[.pointer (some ⟨g1,0,none⟩),.pointer (some ⟨g2,0,none⟩)] 29)):=(Below.refl _ _).alloc (Nat.le_refl _) _
def pickG (a:Int) (g1 g2:Nat):Nat:=if 16777216≤a then g2 else g1
theorem part_any (g1 g2:Nat) (a:Int) (w:World):Calls Tryz.prog 69 #[.agg #[.pointer (some ⟨g1,0,none⟩),.pointer (some ⟨g2,0,none⟩)],.int .i64 a] w fun e w'=>e=.returned (.pointer (some ⟨pickG a g1 g2,0,none⟩))∧Below w.heap.size w w':=by
 have HB:=lh (boxM w g1 g2)
 by_cases ha:16777216≤a
 ·have hk:=lh (show pickG a g1 g2=g2 by unfold pickG;rw[if_pos ha])
  go_enter Tryz.func69,Tryz.ntmps69
  go_wp2_with fail
  go_ret
  exact⟨by rw[hk.out];rfl,HB.out⟩
 ·have hk:=lh (show pickG a g1 g2=g1 by unfold pickG;rw[if_neg ha])
  have ha':a < 16777216:=by omega
  go_enter Tryz.func69,Tryz.ntmps69
  go_wp2_with fail
  go_ret
  exact⟨by rw[hk.out];rfl,HB.out⟩
section
variable {w:World} {B g1 g2:Nat} {V1 V2:Value} {m:Mm}
theorem MR.pick (h:MR w B g1 g2 V1 V2 m) (a:Int):SpR w B (pickG a g1 g2) (m.sp2 a) (if 16777216≤a then V2 else V1):=by
 unfold pickG Mm.sp2
 split
 ·exact h.y
 ·exact h.o
theorem MLoad_any (h:MR w B g1 g2 V1 V2 m) (a:Int):Calls Tryz.prog 25 #[memV g1 g2,.int .i64 a] w fun e w'=>e=.returned (atV (m.at_ a))∧Below w.heap.size w w':=by
 have HB:=lh (boxM w g1 g2)
 have HP:=lh (h.pick a)
 have HA:=lh (h.ok.sp2_at a)
 have cP:=fun w=>part_any g1 g2 a w
 obtain⟨gp,hgp⟩:∃ gp,gp=pickG a g1 g2:=⟨_,rfl⟩
 rw[← hgp] at HP cP
 unfold memV
 clear h hgp
 obtain⟨x,hx⟩:∃ x,x=m.at_ a:=⟨_,rfl⟩
 rw[← hx] at HA ⊢
 clear hx
 cases x with
 | none =>
  unfold atV
  go_enter Tryz.func25,Tryz.ntmps25
  go_wp2_with fail
  refine(cP _).mono ?_
  rintro e w1 ⟨rfl,hb⟩
  have HB1:=lh (HB.out.trans (hb.mono HB.out.size))
  have cL:=SLoad_any (HP.out.below HB1.out) a
  rw[ldV_eq,HA.out] at cL
  unfold atV at cL
  clear hb
  go_wp2_with fail
  refine cL.mono ?_
  rintro e w2 ⟨rfl,hb⟩
  have HB2:=lh (HB1.out.trans (hb.mono HB1.out.size))
  clear hb
  go_wp2_with fail
  go_ret2
  exact⟨rfl,HB2.out⟩
 | some x =>
  unfold atV
  go_enter Tryz.func25,Tryz.ntmps25
  go_wp2_with fail
  refine(cP _).mono ?_
  rintro e w1 ⟨rfl,hb⟩
  have HB1:=lh (HB.out.trans (hb.mono HB.out.size))
  have cL:=SLoad_any (HP.out.below HB1.out) a
  rw[ldV_eq,HA.out] at cL
  unfold atV at cL
  clear hb
  go_wp2_with fail
  refine cL.mono ?_
  rintro e w2 ⟨rfl,hb⟩
  have HB2:=lh (HB1.out.trans (hb.mono HB1.out.size))
  clear hb
  go_wp2_with fail
  go_ret2
  exact⟨rfl,HB2.out⟩
/-- the blocks of a memory -/
def memS (V1 V2:Value) (k:Nat):Prop:=V1.ownBlock=some k ∨ V2.ownBlock=some k
def StoP (w:World) (B g1 g2:Nat) (V1 V2:Value) (er:Int) (m:Mm) (e:Ending) (w':World):Prop:=e=.returned (.int .i64 er)∧MR w' B g1 g2 V1 V2 m∧Kp (memS V1 V2) w w'
theorem MR.put (h:MR w B g1 g2 V1 V2 m) {a x:Int} (hx:U64 x) {w1:World} (h1:SpR w1 B (pickG a g1 g2) ((m.sp2 a).put a x) (if 16777216≤a then V2 else V1)) (h2:Kp (fun k=>(if 16777216≤a then V2 else V1).ownBlock=some k) w w1):MR w1 B g1 g2 V1 V2 (m.put a x)∧Kp (memS V1 V2) w w1:=by
 have hp:=h.ok.sp2_put a x
 unfold pickG Mm.sp2 at h1
 by_cases ha:16777216≤a
 ·simp only[if_pos ha] at h1 h2 hp
  rw[← hp]
  exact⟨⟨h.o.kp h2 (h.y.own_ne h.o.hd (by decide)) fun k hk=>h.vv k hk,h1,by rw[hp];exact h.ok.put a hx,h.gg,h.vv⟩,h2.mono fun k _ hk=>.inr hk⟩
 ·simp only[if_neg ha] at h1 h2 hp
  rw[← hp]
  exact⟨⟨h1,h.y.kp h2 (h.o.own_ne h.y.hd (by decide)) fun k hk h'=>h.vv k h' hk,by rw[hp];exact h.ok.put a hx,h.gg,h.vv⟩,h2.mono fun k _ hk=>.inl hk⟩
theorem MStore_any (h:MR w B g1 g2 V1 V2 m) (a:Int) {x:Int} (hx:U64 x):Calls Tryz.prog 45 #[memV g1 g2,.int .i64 a,.int .u64 x] w (StoP w B g1 g2 V1 V2 (m.store a x).1 (m.store a x).2):=by
 have HB:=lh (boxM w g1 g2)
 have HP:=lh (h.pick a)
 have HA:=lh (h.ok.sp2_has a)
 have cP:=fun w=>part_any g1 g2 a w
 have H:=lh h
 have HX:=lh hx
 obtain⟨gp,hgp⟩:∃ gp,gp=pickG a g1 g2:=⟨_,rfl⟩
 have HG:=lh hgp
 rw[← hgp] at HP cP
 unfold memV
 clear h hgp hx
 obtain⟨r,hr⟩:∃ r:Int,r=if m.has a=true then 0 else 2:=⟨_,rfl⟩
 have HR:=lh hr
 clear hr
 go_enter Tryz.func45,Tryz.ntmps45
 go_wp2_with fail
 refine(cP _).mono ?_
 rintro e w1 ⟨rfl,hb⟩
 have HB1:=lh (HB.out.trans (hb.mono HB.out.size))
 have cL:=SStore_any (HP.out.below HB1.out) a HX.out
 rw[HA.out,← HR.out] at cL
 clear hb
 go_wp2_with fail
 refine cL.mono ?_
 rintro e w2 ⟨rfl,hs,hk⟩
 have HS:=lh hs
 have HK:=lh hk
 clear hs hk
 go_wp2_with fail
 go_ret
 have hk:=(Kp.of_below HB1.out).trans HK.out fun _ _ h=>h
 have hs:=HS.out
 rw[HG.out] at hs
 obtain⟨q1,q2⟩:=H.out.put HX.out hs hk
 exact⟨by unfold Mm.store;rw[← HR.out];rfl,q1,q2⟩
end
end
section
open Go.RowKit Go.Sort
def hdrV (p:Int × Hdr):Value:=.tuple #[p.2.val,.int .i64 p.1]
theorem box2M (w:World) (g1 g2:Nat):Below w.heap.size w ((w.alloc (.cells #[.pointer (some ⟨g1,0,none⟩),.pointer (some ⟨g2,0,none⟩)] 29)).alloc (.cells #[.int .i64 0,.int .i64 0,.int .i64 0] 58)):=((Below.refl _ _).alloc (Nat.le_refl _) _).alloc (by simp) _
theorem Decode_some {x:Int} (hx:U64 x) {h:Hdr} (hd:dH x=some h) (w:World):Calls Tryz.prog 71 #[.int .u64 x] w fun e w'=>e=.returned (.tuple #[.agg #[.int .i64 h.k,.int .i64 h.c,.int .i64 h.f],.int .i64 0])∧Below w.heap.size w w':=by
 have:=Decode_any hx w
 unfold decV at this
 rw[hd] at this
 exact this
theorem Decode_none {x:Int} (hx:U64 x) (hd:dH x=none) (w:World):Calls Tryz.prog 71 #[.int .u64 x] w fun e w'=>e=.returned (.tuple #[.agg #[.int .i64 0,.int .i64 0,.int .i64 0],.int .i64 11])∧Below w.heap.size w w':=by
 have:=Decode_any hx w
 unfold decV at this
 rw[hd] at this
 exact this
theorem DecodeID_zero {x:Int} (hx:U64 x) (hd:dI x=Id.zero) (w:World):Calls Tryz.prog 72 #[.int .u64 x] w fun e w'=>e=.returned (.agg #[.int .i64 0,.int .i64 0])∧Below w.heap.size w w':=by
 have:=DecodeID_any hx w
 rw[hd] at this
 exact this
theorem DecodeID_ne {x:Int} (hx:U64 x) (hd:dI x≠Id.zero) (w:World):∃ p q:Int,Hid ((p == 0)=false)∧Calls Tryz.prog 72 #[.int .u64 x] w fun e w'=>e=.returned (.agg #[.int .i64 p,.int .i64 q])∧Below w.heap.size w w':=by
 have h1:=(vI_iff _).1 (dI_ne hd)
 exact⟨(dI x).m,(dI x).s,lh (by simp;omega),DecodeID_any hx w⟩
theorem Words_of (h:Hdr) (w:World):Calls Tryz.prog 74 #[.agg #[.int .i64 h.k,.int .i64 h.c,.int .i64 h.f]] w fun e w'=>e=.returned (.int .i64 (wH h))∧Below w.heap.size w w':=Words_any h w
section
variable {w:World} {B g1 g2:Nat} {V1 V2:Value} {m:Mm}
set_option maxHeartbeats 2000000 in
theorem Hdr_none (h:MR w B g1 g2 V1 V2 m) (a:Int) (hx:(m.sp2 a).at_ a=none):Calls Tryz.prog 21 #[memV g1 g2,.int .i64 a] w fun e w'=>e=.returned (hdrV ((2,Hdr.zero)))∧Below w.heap.size w w':=by
 have HP:=lh (h.pick a)
 have HB:=lh (box2M w g1 g2)
 have cP:=fun w=>part_any g1 g2 a w
 obtain⟨gp,hgp⟩:∃ gp,gp=pickG a g1 g2:=⟨_,rfl⟩
 obtain⟨s,hs⟩:∃ s,s=m.sp2 a:=⟨_,rfl⟩
 rw[← hgp] at HP cP
 rw[← hs] at *
 unfold memV
 clear h hgp hs
 go_enter Tryz.func21,Tryz.ntmps21
 go_wp2_with fail
 refine(cP _).mono ?_
 rintro e w1 ⟨rfl,hb⟩
 have hz:=(box2_b hb).lt
 have Z1:=lh (box2_b hb)
 have HB1:=lh (HB.out.trans (hb.mono HB.out.size))
 have cL:=SLoad_any (HP.out.below HB1.out) a
 rw[ldV_eq,hx] at cL
 unfold atV at cL
 clear hb hx
 go_wp2_with fail
 refine cL.mono ?_
 rintro e w2 ⟨rfl,hb⟩
 have HB2:=lh (HB1.out.trans (hb.mono HB1.out.size))
 have Z2:=lh (Z1.out.below hb hz)
 clear hb
 have d0:w2.cell? ⟨w.heap.size+1,0,none⟩=some (.int .i64 0):=Z2.out.cell 0
 have d1:w2.cell? ⟨w.heap.size+1,1,none⟩=some (.int .i64 0):=Z2.out.cell 1
 have d2:w2.cell? ⟨w.heap.size+1,2,none⟩=some (.int .i64 0):=Z2.out.cell 2
 have f0:w2.frozen? ⟨w.heap.size+1,0,none⟩=false:=Z2.out.free 0
 have f1:w2.frozen? ⟨w.heap.size+1,1,none⟩=false:=Z2.out.free 1
 have f2:w2.frozen? ⟨w.heap.size+1,2,none⟩=false:=Z2.out.free 2
 go_wp2_with fail
 refine bodyPost_ret (v:=.tuple #[.agg #[.int .i64 0,.int .i64 0,.int .i64 0],.int .i64 2]) (by simp[results,Tryz.results21,go_sem,d0,d1,d2]) rfl ⟨rfl,?_⟩
 exact((HB2.out.setCell (p:=⟨w.heap.size+1,0,none⟩) (by simp) _).setCell (p:=⟨w.heap.size+1,1,none⟩) (by simp) _).setCell (p:=⟨w.heap.size+1,2,none⟩) (by simp) _
set_option maxHeartbeats 2000000 in
theorem Hdr_y0 (h:MR w B g1 g2 V1 V2 m) (a:Int) {x:Int} (hx:(m.sp2 a).at_ a=some x) (hux:U64 x) {hh:Hdr} (hd:dH x=some hh) (hy:(m.sp2 a).at_ (a+1)=none):Calls Tryz.prog 21 #[memV g1 g2,.int .i64 a] w fun e w'=>e=.returned (hdrV ((11,Hdr.zero)))∧Below w.heap.size w w':=by
 have cD:=fun w=>Decode_some hux hd w
 have hbx:=Spc.has_iff.1 (Spc.at_has hx)
 have hbl:=h.pick a
 have hbl0:=hbl.b0
 have hbl1:=hbl.lim
 have hbl2:=hbl.l0
 clear hux hd hbl
 have HP:=lh (h.pick a)
 have HB:=lh (box2M w g1 g2)
 have cP:=fun w=>part_any g1 g2 a w
 obtain⟨gp,hgp⟩:∃ gp,gp=pickG a g1 g2:=⟨_,rfl⟩
 obtain⟨s,hs⟩:∃ s,s=m.sp2 a:=⟨_,rfl⟩
 rw[← hgp] at HP cP
 rw[← hs] at *
 unfold memV
 clear h hgp hs
 go_enter Tryz.func21,Tryz.ntmps21
 go_wp2_with fail
 refine(cP _).mono ?_
 rintro e w1 ⟨rfl,hb⟩
 have hz:=(box2_b hb).lt
 have Z1:=lh (box2_b hb)
 have HB1:=lh (HB.out.trans (hb.mono HB.out.size))
 have cL:=SLoad_any (HP.out.below HB1.out) a
 rw[ldV_eq,hx] at cL
 unfold atV at cL
 clear hb hx
 go_wp2_with fail
 refine cL.mono ?_
 rintro e w2 ⟨rfl,hb⟩
 have HB2:=lh (HB1.out.trans (hb.mono HB1.out.size))
 have Z2:=lh (Z1.out.below hb hz)
 clear hb
 have cL2:=SLoad_any (HP.out.below HB2.out) (a+1)
 rw[ldV_eq,hy] at cL2
 unfold atV at cL2
 clear hy
 go_wp2_with fail
 refine cL2.mono ?_
 rintro e w3 ⟨rfl,hb⟩
 have HB3:=lh (HB2.out.trans (hb.mono HB2.out.size))
 have Z3:=lh (Z2.out.below hb Z2.out.lt)
 clear hb
 go_wp2_with fail
 refine(cD _).mono ?_
 rintro e w4 ⟨rfl,hb⟩
 have HB4:=lh (HB3.out.trans (hb.mono HB3.out.size))
 have Z4:=lh (Z3.out.below hb Z3.out.lt)
 have hz4:=Z4.out.lt
 clear hb
 have HB5:=lh (HB4.out.alloc HB4.out.size (.cells #[.int .i64 hh.k,.int .i64 hh.c,.int .i64 hh.f] 58))
 have Z5:=lh (Z4.out.alloc (.cells #[.int .i64 hh.k,.int .i64 hh.c,.int .i64 hh.f] 58))
 have hz5:w.heap.size+1≠w4.heap.size:=by omega
 go_upto_region 11 with fail
 obtain⟨w5,hw5⟩:∃ w5,(w4.alloc (.cells #[.int .i64 hh.k,.int .i64 hh.c,.int .i64 hh.f] 58))=w5:=⟨_,rfl⟩
 rw[hw5] at HB5 Z5 ⊢
 clear hw5
 have d0:w5.cell? ⟨w.heap.size+1,0,none⟩=some (.int .i64 0):=Z5.out.cell 0
 have d1:w5.cell? ⟨w.heap.size+1,1,none⟩=some (.int .i64 0):=Z5.out.cell 1
 have d2:w5.cell? ⟨w.heap.size+1,2,none⟩=some (.int .i64 0):=Z5.out.cell 2
 have f0:w5.frozen? ⟨w.heap.size+1,0,none⟩=false:=Z5.out.free 0
 have f1:w5.frozen? ⟨w.heap.size+1,1,none⟩=false:=Z5.out.free 1
 have f2:w5.frozen? ⟨w.heap.size+1,2,none⟩=false:=Z5.out.free 2
 go_wp2_with fail
 refine bodyPost_ret (v:=.tuple #[.agg #[.int .i64 0,.int .i64 0,.int .i64 0],.int .i64 11]) (by simp[results,Tryz.results21,go_sem,d0,d1,d2]) rfl ⟨rfl,?_⟩
 exact((HB5.out.setCell (p:=⟨w.heap.size+1,0,none⟩) (by simp) _).setCell (p:=⟨w.heap.size+1,1,none⟩) (by simp) _).setCell (p:=⟨w.heap.size+1,2,none⟩) (by simp) _
set_option maxHeartbeats 2000000 in
theorem Hdr_y1 (h:MR w B g1 g2 V1 V2 m) (a:Int) {x:Int} (hx:(m.sp2 a).at_ a=some x) (hux:U64 x) (hd:dH x=none) (hy:(m.sp2 a).at_ (a+1)=none):Calls Tryz.prog 21 #[memV g1 g2,.int .i64 a] w fun e w'=>e=.returned (hdrV ((11,Hdr.zero)))∧Below w.heap.size w w':=by
 have cD:=fun w=>Decode_none hux hd w
 have hbx:=Spc.has_iff.1 (Spc.at_has hx)
 have hbl:=h.pick a
 have hbl0:=hbl.b0
 have hbl1:=hbl.lim
 have hbl2:=hbl.l0
 clear hux hd hbl
 have HP:=lh (h.pick a)
 have HB:=lh (box2M w g1 g2)
 have cP:=fun w=>part_any g1 g2 a w
 obtain⟨gp,hgp⟩:∃ gp,gp=pickG a g1 g2:=⟨_,rfl⟩
 obtain⟨s,hs⟩:∃ s,s=m.sp2 a:=⟨_,rfl⟩
 rw[← hgp] at HP cP
 rw[← hs] at *
 unfold memV
 clear h hgp hs
 go_enter Tryz.func21,Tryz.ntmps21
 go_wp2_with fail
 refine(cP _).mono ?_
 rintro e w1 ⟨rfl,hb⟩
 have hz:=(box2_b hb).lt
 have Z1:=lh (box2_b hb)
 have HB1:=lh (HB.out.trans (hb.mono HB.out.size))
 have cL:=SLoad_any (HP.out.below HB1.out) a
 rw[ldV_eq,hx] at cL
 unfold atV at cL
 clear hb hx
 go_wp2_with fail
 refine cL.mono ?_
 rintro e w2 ⟨rfl,hb⟩
 have HB2:=lh (HB1.out.trans (hb.mono HB1.out.size))
 have Z2:=lh (Z1.out.below hb hz)
 clear hb
 have cL2:=SLoad_any (HP.out.below HB2.out) (a+1)
 rw[ldV_eq,hy] at cL2
 unfold atV at cL2
 clear hy
 go_wp2_with fail
 refine cL2.mono ?_
 rintro e w3 ⟨rfl,hb⟩
 have HB3:=lh (HB2.out.trans (hb.mono HB2.out.size))
 have Z3:=lh (Z2.out.below hb Z2.out.lt)
 clear hb
 go_wp2_with fail
 refine(cD _).mono ?_
 rintro e w4 ⟨rfl,hb⟩
 have HB4:=lh (HB3.out.trans (hb.mono HB3.out.size))
 have Z4:=lh (Z3.out.below hb Z3.out.lt)
 have hz4:=Z4.out.lt
 clear hb
 have HB5:=lh (HB4.out.alloc HB4.out.size (.cells #[.int .i64 0,.int .i64 0,.int .i64 0] 58))
 have Z5:=lh (Z4.out.alloc (.cells #[.int .i64 0,.int .i64 0,.int .i64 0] 58))
 have hz5:w.heap.size+1≠w4.heap.size:=by omega
 go_upto_region 11 with fail
 obtain⟨w5,hw5⟩:∃ w5,(w4.alloc (.cells #[.int .i64 0,.int .i64 0,.int .i64 0] 58))=w5:=⟨_,rfl⟩
 rw[hw5] at HB5 Z5 ⊢
 clear hw5
 have d0:w5.cell? ⟨w.heap.size+1,0,none⟩=some (.int .i64 0):=Z5.out.cell 0
 have d1:w5.cell? ⟨w.heap.size+1,1,none⟩=some (.int .i64 0):=Z5.out.cell 1
 have d2:w5.cell? ⟨w.heap.size+1,2,none⟩=some (.int .i64 0):=Z5.out.cell 2
 have f0:w5.frozen? ⟨w.heap.size+1,0,none⟩=false:=Z5.out.free 0
 have f1:w5.frozen? ⟨w.heap.size+1,1,none⟩=false:=Z5.out.free 1
 have f2:w5.frozen? ⟨w.heap.size+1,2,none⟩=false:=Z5.out.free 2
 go_wp2_with fail
 refine bodyPost_ret (v:=.tuple #[.agg #[.int .i64 0,.int .i64 0,.int .i64 0],.int .i64 11]) (by simp[results,Tryz.results21,go_sem,d0,d1,d2]) rfl ⟨rfl,?_⟩
 exact((HB5.out.setCell (p:=⟨w.heap.size+1,0,none⟩) (by simp) _).setCell (p:=⟨w.heap.size+1,1,none⟩) (by simp) _).setCell (p:=⟨w.heap.size+1,2,none⟩) (by simp) _
set_option maxHeartbeats 2000000 in
theorem Hdr_d0 (h:MR w B g1 g2 V1 V2 m) (a:Int) {x:Int} (hx:(m.sp2 a).at_ a=some x) (hux:U64 x) {v:Int} (hd:dH x=none) (hy:(m.sp2 a).at_ (a+1)=some v):Calls Tryz.prog 21 #[memV g1 g2,.int .i64 a] w fun e w'=>e=.returned (hdrV ((11,Hdr.zero)))∧Below w.heap.size w w':=by
 have cD:=fun w=>Decode_none hux hd w
 have hbx:=Spc.has_iff.1 (Spc.at_has hx)
 have hbl:=h.pick a
 have hbl0:=hbl.b0
 have hbl1:=hbl.lim
 have hbl2:=hbl.l0
 clear hux hd hbl
 have HP:=lh (h.pick a)
 have HB:=lh (box2M w g1 g2)
 have cP:=fun w=>part_any g1 g2 a w
 obtain⟨gp,hgp⟩:∃ gp,gp=pickG a g1 g2:=⟨_,rfl⟩
 obtain⟨s,hs⟩:∃ s,s=m.sp2 a:=⟨_,rfl⟩
 rw[← hgp] at HP cP
 rw[← hs] at *
 unfold memV
 clear h hgp hs
 go_enter Tryz.func21,Tryz.ntmps21
 go_wp2_with fail
 refine(cP _).mono ?_
 rintro e w1 ⟨rfl,hb⟩
 have hz:=(box2_b hb).lt
 have Z1:=lh (box2_b hb)
 have HB1:=lh (HB.out.trans (hb.mono HB.out.size))
 have cL:=SLoad_any (HP.out.below HB1.out) a
 rw[ldV_eq,hx] at cL
 unfold atV at cL
 clear hb hx
 go_wp2_with fail
 refine cL.mono ?_
 rintro e w2 ⟨rfl,hb⟩
 have HB2:=lh (HB1.out.trans (hb.mono HB1.out.size))
 have Z2:=lh (Z1.out.below hb hz)
 clear hb
 have cL2:=SLoad_any (HP.out.below HB2.out) (a+1)
 rw[ldV_eq,hy] at cL2
 unfold atV at cL2
 clear hy
 go_wp2_with fail
 refine cL2.mono ?_
 rintro e w3 ⟨rfl,hb⟩
 have HB3:=lh (HB2.out.trans (hb.mono HB2.out.size))
 have Z3:=lh (Z2.out.below hb Z2.out.lt)
 clear hb
 go_wp2_with fail
 refine(cD _).mono ?_
 rintro e w4 ⟨rfl,hb⟩
 have HB4:=lh (HB3.out.trans (hb.mono HB3.out.size))
 have Z4:=lh (Z3.out.below hb Z3.out.lt)
 have hz4:=Z4.out.lt
 clear hb
 have HB5:=lh (HB4.out.alloc HB4.out.size (.cells #[.int .i64 0,.int .i64 0,.int .i64 0] 58))
 have Z5:=lh (Z4.out.alloc (.cells #[.int .i64 0,.int .i64 0,.int .i64 0] 58))
 have hz5:w.heap.size+1≠w4.heap.size:=by omega
 go_upto_region 11 with fail
 obtain⟨w5,hw5⟩:∃ w5,(w4.alloc (.cells #[.int .i64 0,.int .i64 0,.int .i64 0] 58))=w5:=⟨_,rfl⟩
 rw[hw5] at HB5 Z5 ⊢
 clear hw5
 have d0:w5.cell? ⟨w.heap.size+1,0,none⟩=some (.int .i64 0):=Z5.out.cell 0
 have d1:w5.cell? ⟨w.heap.size+1,1,none⟩=some (.int .i64 0):=Z5.out.cell 1
 have d2:w5.cell? ⟨w.heap.size+1,2,none⟩=some (.int .i64 0):=Z5.out.cell 2
 have f0:w5.frozen? ⟨w.heap.size+1,0,none⟩=false:=Z5.out.free 0
 have f1:w5.frozen? ⟨w.heap.size+1,1,none⟩=false:=Z5.out.free 1
 have f2:w5.frozen? ⟨w.heap.size+1,2,none⟩=false:=Z5.out.free 2
 go_wp2_with fail
 refine bodyPost_ret (v:=.tuple #[.agg #[.int .i64 0,.int .i64 0,.int .i64 0],.int .i64 11]) (by simp[results,Tryz.results21,go_sem,d0,d1,d2]) rfl ⟨rfl,?_⟩
 exact((HB5.out.setCell (p:=⟨w.heap.size+1,0,none⟩) (by simp) _).setCell (p:=⟨w.heap.size+1,1,none⟩) (by simp) _).setCell (p:=⟨w.heap.size+1,2,none⟩) (by simp) _
set_option maxHeartbeats 2000000 in
theorem Hdr_id (h:MR w B g1 g2 V1 V2 m) (a:Int) {x:Int} (hx:(m.sp2 a).at_ a=some x) (hux:U64 x) {hh:Hdr} (hd:dH x=some hh) {v:Int} (hy:(m.sp2 a).at_ (a+1)=some v) (huv:U64 v) (hi:dI v=Id.zero):Calls Tryz.prog 21 #[memV g1 g2,.int .i64 a] w fun e w'=>e=.returned (hdrV ((11,Hdr.zero)))∧Below w.heap.size w w':=by
 have cD:=fun w=>Decode_some hux hd w
 have hbx:=Spc.has_iff.1 (Spc.at_has hx)
 have hbl:=h.pick a
 have hbl0:=hbl.b0
 have hbl1:=hbl.lim
 have hbl2:=hbl.l0
 clear hux hd hbl
 have cI:=fun w=>DecodeID_zero huv hi w
 clear huv hi
 have HP:=lh (h.pick a)
 have HB:=lh (box2M w g1 g2)
 have cP:=fun w=>part_any g1 g2 a w
 obtain⟨gp,hgp⟩:∃ gp,gp=pickG a g1 g2:=⟨_,rfl⟩
 obtain⟨s,hs⟩:∃ s,s=m.sp2 a:=⟨_,rfl⟩
 rw[← hgp] at HP cP
 rw[← hs] at *
 unfold memV
 clear h hgp hs
 go_enter Tryz.func21,Tryz.ntmps21
 go_wp2_with fail
 refine(cP _).mono ?_
 rintro e w1 ⟨rfl,hb⟩
 have hz:=(box2_b hb).lt
 have Z1:=lh (box2_b hb)
 have HB1:=lh (HB.out.trans (hb.mono HB.out.size))
 have cL:=SLoad_any (HP.out.below HB1.out) a
 rw[ldV_eq,hx] at cL
 unfold atV at cL
 clear hb hx
 go_wp2_with fail
 refine cL.mono ?_
 rintro e w2 ⟨rfl,hb⟩
 have HB2:=lh (HB1.out.trans (hb.mono HB1.out.size))
 have Z2:=lh (Z1.out.below hb hz)
 clear hb
 have cL2:=SLoad_any (HP.out.below HB2.out) (a+1)
 rw[ldV_eq,hy] at cL2
 unfold atV at cL2
 clear hy
 go_wp2_with fail
 refine cL2.mono ?_
 rintro e w3 ⟨rfl,hb⟩
 have HB3:=lh (HB2.out.trans (hb.mono HB2.out.size))
 have Z3:=lh (Z2.out.below hb Z2.out.lt)
 clear hb
 go_wp2_with fail
 refine(cD _).mono ?_
 rintro e w4 ⟨rfl,hb⟩
 have HB4:=lh (HB3.out.trans (hb.mono HB3.out.size))
 have Z4:=lh (Z3.out.below hb Z3.out.lt)
 have hz4:=Z4.out.lt
 clear hb
 have HB5:=lh (HB4.out.alloc HB4.out.size (.cells #[.int .i64 hh.k,.int .i64 hh.c,.int .i64 hh.f] 58))
 have Z5:=lh (Z4.out.alloc (.cells #[.int .i64 hh.k,.int .i64 hh.c,.int .i64 hh.f] 58))
 have hz5:w.heap.size+1≠w4.heap.size:=by omega
 go_wp2_with fail
 refine(cI _).mono ?_
 rintro e w6 ⟨rfl,hb⟩
 have HB6:=lh (HB5.out.trans (hb.mono HB5.out.size))
 have Z6:=lh (Z5.out.below hb Z5.out.lt)
 clear hb
 have d0:w6.cell? ⟨w.heap.size+1,0,none⟩=some (.int .i64 0):=Z6.out.cell 0
 have d1:w6.cell? ⟨w.heap.size+1,1,none⟩=some (.int .i64 0):=Z6.out.cell 1
 have d2:w6.cell? ⟨w.heap.size+1,2,none⟩=some (.int .i64 0):=Z6.out.cell 2
 have f0:w6.frozen? ⟨w.heap.size+1,0,none⟩=false:=Z6.out.free 0
 have f1:w6.frozen? ⟨w.heap.size+1,1,none⟩=false:=Z6.out.free 1
 have f2:w6.frozen? ⟨w.heap.size+1,2,none⟩=false:=Z6.out.free 2
 go_wp2_with fail
 refine bodyPost_ret (v:=.tuple #[.agg #[.int .i64 0,.int .i64 0,.int .i64 0],.int .i64 11]) (by simp[results,Tryz.results21,go_sem,d0,d1,d2]) rfl ⟨rfl,?_⟩
 exact((HB6.out.setCell (p:=⟨w.heap.size+1,0,none⟩) (by simp) _).setCell (p:=⟨w.heap.size+1,1,none⟩) (by simp) _).setCell (p:=⟨w.heap.size+1,2,none⟩) (by simp) _
set_option maxHeartbeats 2000000 in
theorem Hdr_far (h:MR w B g1 g2 V1 V2 m) (a:Int) {x:Int} (hx:(m.sp2 a).at_ a=some x) (hux:U64 x) {hh:Hdr} (hd:dH x=some hh) {v:Int} (hy:(m.sp2 a).at_ (a+1)=some v) (huv:U64 v) (hi:dI v≠Id.zero) (hw:(m.sp2 a).has (a+wH hh - 1)=false):Calls Tryz.prog 21 #[memV g1 g2,.int .i64 a] w fun e w'=>e=.returned (hdrV ((11,Hdr.zero)))∧Below w.heap.size w w':=by
 have cD:=fun w=>Decode_some hux hd w
 have hbx:=Spc.has_iff.1 (Spc.at_has hx)
 have hbl:=h.pick a
 have hbl0:=hbl.b0
 have hbl1:=hbl.lim
 have hbl2:=hbl.l0
 clear hux hd hbl
 have cI:=fun w=>DecodeID_ne huv hi w
 have HW:=lh hw
 have hwb:=wH_bound hh
 clear huv hi hw
 have HP:=lh (h.pick a)
 have HB:=lh (box2M w g1 g2)
 have cP:=fun w=>part_any g1 g2 a w
 obtain⟨gp,hgp⟩:∃ gp,gp=pickG a g1 g2:=⟨_,rfl⟩
 obtain⟨s,hs⟩:∃ s,s=m.sp2 a:=⟨_,rfl⟩
 rw[← hgp] at HP cP
 rw[← hs] at *
 unfold memV
 clear h hgp hs
 go_enter Tryz.func21,Tryz.ntmps21
 go_wp2_with fail
 refine(cP _).mono ?_
 rintro e w1 ⟨rfl,hb⟩
 have hz:=(box2_b hb).lt
 have Z1:=lh (box2_b hb)
 have HB1:=lh (HB.out.trans (hb.mono HB.out.size))
 have cL:=SLoad_any (HP.out.below HB1.out) a
 rw[ldV_eq,hx] at cL
 unfold atV at cL
 clear hb hx
 go_wp2_with fail
 refine cL.mono ?_
 rintro e w2 ⟨rfl,hb⟩
 have HB2:=lh (HB1.out.trans (hb.mono HB1.out.size))
 have Z2:=lh (Z1.out.below hb hz)
 clear hb
 have cL2:=SLoad_any (HP.out.below HB2.out) (a+1)
 rw[ldV_eq,hy] at cL2
 unfold atV at cL2
 clear hy
 go_wp2_with fail
 refine cL2.mono ?_
 rintro e w3 ⟨rfl,hb⟩
 have HB3:=lh (HB2.out.trans (hb.mono HB2.out.size))
 have Z3:=lh (Z2.out.below hb Z2.out.lt)
 clear hb
 go_wp2_with fail
 refine(cD _).mono ?_
 rintro e w4 ⟨rfl,hb⟩
 have HB4:=lh (HB3.out.trans (hb.mono HB3.out.size))
 have Z4:=lh (Z3.out.below hb Z3.out.lt)
 have hz4:=Z4.out.lt
 clear hb
 have HB5:=lh (HB4.out.alloc HB4.out.size (.cells #[.int .i64 hh.k,.int .i64 hh.c,.int .i64 hh.f] 58))
 have Z5:=lh (Z4.out.alloc (.cells #[.int .i64 hh.k,.int .i64 hh.c,.int .i64 hh.f] 58))
 have hz5:w.heap.size+1≠w4.heap.size:=by omega
 obtain⟨p,q,hp,cI'⟩:=cI (w4.alloc (.cells #[.int .i64 hh.k,.int .i64 hh.c,.int .i64 hh.f] 58))
 go_wp2_with fail
 refine cI'.mono ?_
 rintro e w6 ⟨rfl,hb⟩
 have HB6:=lh (HB5.out.trans (hb.mono HB5.out.size))
 have Z6:=lh (Z5.out.below hb Z5.out.lt)
 have q6:=(Bk.new w4 58 #[.int .i64 hh.k,.int .i64 hh.c,.int .i64 hh.f]).below hb (by simp)
 have k0:w6.cell? ⟨w4.heap.size,0,none⟩=some (.int .i64 hh.k):=q6.cell 0
 have k1:w6.cell? ⟨w4.heap.size,1,none⟩=some (.int .i64 hh.c):=q6.cell 1
 have k2:w6.cell? ⟨w4.heap.size,2,none⟩=some (.int .i64 hh.f):=q6.cell 2
 have Q6:=lh q6
 have hpo:=hp.out
 clear hb q6
 go_wp2_with fail
 refine(Words_of hh _).mono ?_
 rintro e w7 ⟨rfl,hb⟩
 have HB7:=lh (HB6.out.trans (hb.mono HB6.out.size))
 have Z7:=lh (Z6.out.below hb Z6.out.lt)
 have Q7:=lh (Q6.out.below hb Q6.out.lt)
 have cC:=Contains_any (HP.out.below HB7.out) (a+wH hh - 1)
 rw[HW.out] at cC
 clear hb k0 k1 k2
 go_wp2_with fail
 refine cC.mono ?_
 rintro e w8 ⟨rfl,hb⟩
 have HB8:=lh (HB7.out.trans (hb.mono HB7.out.size))
 have Z8:=lh (Z7.out.below hb Z7.out.lt)
 have Q8:=lh (Q7.out.below hb Q7.out.lt)
 have k0:w8.cell? ⟨w4.heap.size,0,none⟩=some (.int .i64 hh.k):=Q8.out.cell 0
 have k1:w8.cell? ⟨w4.heap.size,1,none⟩=some (.int .i64 hh.c):=Q8.out.cell 1
 have k2:w8.cell? ⟨w4.heap.size,2,none⟩=some (.int .i64 hh.f):=Q8.out.cell 2
 clear hb
 have d0:w8.cell? ⟨w.heap.size+1,0,none⟩=some (.int .i64 0):=Z8.out.cell 0
 have d1:w8.cell? ⟨w.heap.size+1,1,none⟩=some (.int .i64 0):=Z8.out.cell 1
 have d2:w8.cell? ⟨w.heap.size+1,2,none⟩=some (.int .i64 0):=Z8.out.cell 2
 have f0:w8.frozen? ⟨w.heap.size+1,0,none⟩=false:=Z8.out.free 0
 have f1:w8.frozen? ⟨w.heap.size+1,1,none⟩=false:=Z8.out.free 1
 have f2:w8.frozen? ⟨w.heap.size+1,2,none⟩=false:=Z8.out.free 2
 go_wp2_with fail
 refine bodyPost_ret (v:=.tuple #[.agg #[.int .i64 0,.int .i64 0,.int .i64 0],.int .i64 11]) (by simp[results,Tryz.results21,go_sem,d0,d1,d2]) rfl ⟨rfl,?_⟩
 exact((HB8.out.setCell (p:=⟨w.heap.size+1,0,none⟩) (by simp) _).setCell (p:=⟨w.heap.size+1,1,none⟩) (by simp) _).setCell (p:=⟨w.heap.size+1,2,none⟩) (by simp) _
set_option maxHeartbeats 2000000 in
theorem Hdr_ok (h:MR w B g1 g2 V1 V2 m) (a:Int) {x:Int} (hx:(m.sp2 a).at_ a=some x) (hux:U64 x) {hh:Hdr} (hd:dH x=some hh) {v:Int} (hy:(m.sp2 a).at_ (a+1)=some v) (huv:U64 v) (hi:dI v≠Id.zero) (hw:(m.sp2 a).has (a+wH hh - 1)=true):Calls Tryz.prog 21 #[memV g1 g2,.int .i64 a] w fun e w'=>e=.returned (hdrV ((0,hh)))∧Below w.heap.size w w':=by
 have cD:=fun w=>Decode_some hux hd w
 have hbx:=Spc.has_iff.1 (Spc.at_has hx)
 have hbl:=h.pick a
 have hbl0:=hbl.b0
 have hbl1:=hbl.lim
 have hbl2:=hbl.l0
 clear hux hd hbl
 have cI:=fun w=>DecodeID_ne huv hi w
 have HW:=lh hw
 have hwb:=wH_bound hh
 clear huv hi hw
 have HP:=lh (h.pick a)
 have HB:=lh (box2M w g1 g2)
 have cP:=fun w=>part_any g1 g2 a w
 obtain⟨gp,hgp⟩:∃ gp,gp=pickG a g1 g2:=⟨_,rfl⟩
 obtain⟨s,hs⟩:∃ s,s=m.sp2 a:=⟨_,rfl⟩
 rw[← hgp] at HP cP
 rw[← hs] at *
 unfold memV
 clear h hgp hs
 go_enter Tryz.func21,Tryz.ntmps21
 go_wp2_with fail
 refine(cP _).mono ?_
 rintro e w1 ⟨rfl,hb⟩
 have hz:=(box2_b hb).lt
 have Z1:=lh (box2_b hb)
 have HB1:=lh (HB.out.trans (hb.mono HB.out.size))
 have cL:=SLoad_any (HP.out.below HB1.out) a
 rw[ldV_eq,hx] at cL
 unfold atV at cL
 clear hb hx
 go_wp2_with fail
 refine cL.mono ?_
 rintro e w2 ⟨rfl,hb⟩
 have HB2:=lh (HB1.out.trans (hb.mono HB1.out.size))
 have Z2:=lh (Z1.out.below hb hz)
 clear hb
 have cL2:=SLoad_any (HP.out.below HB2.out) (a+1)
 rw[ldV_eq,hy] at cL2
 unfold atV at cL2
 clear hy
 go_wp2_with fail
 refine cL2.mono ?_
 rintro e w3 ⟨rfl,hb⟩
 have HB3:=lh (HB2.out.trans (hb.mono HB2.out.size))
 have Z3:=lh (Z2.out.below hb Z2.out.lt)
 clear hb
 go_wp2_with fail
 refine(cD _).mono ?_
 rintro e w4 ⟨rfl,hb⟩
 have HB4:=lh (HB3.out.trans (hb.mono HB3.out.size))
 have Z4:=lh (Z3.out.below hb Z3.out.lt)
 have hz4:=Z4.out.lt
 clear hb
 have HB5:=lh (HB4.out.alloc HB4.out.size (.cells #[.int .i64 hh.k,.int .i64 hh.c,.int .i64 hh.f] 58))
 have Z5:=lh (Z4.out.alloc (.cells #[.int .i64 hh.k,.int .i64 hh.c,.int .i64 hh.f] 58))
 have hz5:w.heap.size+1≠w4.heap.size:=by omega
 obtain⟨p,q,hp,cI'⟩:=cI (w4.alloc (.cells #[.int .i64 hh.k,.int .i64 hh.c,.int .i64 hh.f] 58))
 go_wp2_with fail
 refine cI'.mono ?_
 rintro e w6 ⟨rfl,hb⟩
 have HB6:=lh (HB5.out.trans (hb.mono HB5.out.size))
 have Z6:=lh (Z5.out.below hb Z5.out.lt)
 have q6:=(Bk.new w4 58 #[.int .i64 hh.k,.int .i64 hh.c,.int .i64 hh.f]).below hb (by simp)
 have k0:w6.cell? ⟨w4.heap.size,0,none⟩=some (.int .i64 hh.k):=q6.cell 0
 have k1:w6.cell? ⟨w4.heap.size,1,none⟩=some (.int .i64 hh.c):=q6.cell 1
 have k2:w6.cell? ⟨w4.heap.size,2,none⟩=some (.int .i64 hh.f):=q6.cell 2
 have Q6:=lh q6
 have hpo:=hp.out
 clear hb q6
 go_wp2_with fail
 refine(Words_of hh _).mono ?_
 rintro e w7 ⟨rfl,hb⟩
 have HB7:=lh (HB6.out.trans (hb.mono HB6.out.size))
 have Z7:=lh (Z6.out.below hb Z6.out.lt)
 have Q7:=lh (Q6.out.below hb Q6.out.lt)
 have cC:=Contains_any (HP.out.below HB7.out) (a+wH hh - 1)
 rw[HW.out] at cC
 clear hb k0 k1 k2
 go_wp2_with fail
 refine cC.mono ?_
 rintro e w8 ⟨rfl,hb⟩
 have HB8:=lh (HB7.out.trans (hb.mono HB7.out.size))
 have Z8:=lh (Z7.out.below hb Z7.out.lt)
 have Q8:=lh (Q7.out.below hb Q7.out.lt)
 have k0:w8.cell? ⟨w4.heap.size,0,none⟩=some (.int .i64 hh.k):=Q8.out.cell 0
 have k1:w8.cell? ⟨w4.heap.size,1,none⟩=some (.int .i64 hh.c):=Q8.out.cell 1
 have k2:w8.cell? ⟨w4.heap.size,2,none⟩=some (.int .i64 hh.f):=Q8.out.cell 2
 clear hb
 have d0:w8.cell? ⟨w.heap.size+1,0,none⟩=some (.int .i64 0):=Z8.out.cell 0
 have d1:w8.cell? ⟨w.heap.size+1,1,none⟩=some (.int .i64 0):=Z8.out.cell 1
 have d2:w8.cell? ⟨w.heap.size+1,2,none⟩=some (.int .i64 0):=Z8.out.cell 2
 have f0:w8.frozen? ⟨w.heap.size+1,0,none⟩=false:=Z8.out.free 0
 have f1:w8.frozen? ⟨w.heap.size+1,1,none⟩=false:=Z8.out.free 1
 have f2:w8.frozen? ⟨w.heap.size+1,2,none⟩=false:=Z8.out.free 2
 go_wp2_with fail
 refine bodyPost_ret (v:=.tuple #[.agg #[.int .i64 hh.k,.int .i64 hh.c,.int .i64 hh.f],.int .i64 0]) (by simp[results,Tryz.results21,go_sem,d0,d1,d2]) rfl ⟨rfl,?_⟩
 exact((HB8.out.setCell (p:=⟨w.heap.size+1,0,none⟩) (by simp) _).setCell (p:=⟨w.heap.size+1,1,none⟩) (by simp) _).setCell (p:=⟨w.heap.size+1,2,none⟩) (by simp) _
theorem MHeader_any (h:MR w B g1 g2 V1 V2 m) (a:Int):Calls Tryz.prog 21 #[memV g1 g2,.int .i64 a] w fun e w'=>e=.returned (hdrV (m.hdr a))∧Below w.heap.size w w':=by
 rw[← h.ok.sp2_hdr a]
 have ho:(m.sp2 a).Ok:=by unfold Mm.sp2;split;exact h.ok.y;exact h.ok.o
 unfold Spc.hdr
 cases hx:(m.sp2 a).at_ a with
 | none=>exact Hdr_none h a hx
 | some x =>
  have hux:=ho.at_u hx
  cases hd:dH x with
  | none =>
   cases hy:(m.sp2 a).at_ (a+1) with
   | none=>simp only[hd];exact Hdr_y1 h a hx hux hd hy
   | some v=>simp only[hd];exact Hdr_d0 h a hx hux hd hy
  | some hh =>
   cases hy:(m.sp2 a).at_ (a+1) with
   | none=>simp only[hd];exact Hdr_y0 h a hx hux hd hy
   | some v =>
    simp only[hd]
    have huv:=ho.at_u hy
    by_cases hi:dI v=Id.zero
    ·rw[if_pos (.inl hi)];exact Hdr_id h a hx hux hd hy huv hi
    ·cases hw:(m.sp2 a).has (a+wH hh - 1) with
     | false=>rw[if_pos (.inr rfl)];exact Hdr_far h a hx hux hd hy huv hi hw
     | true=>rw[if_neg (by simp[hi])];exact Hdr_ok h a hx hux hd hy huv hi hw
end
end
section
open Go.RowKit Go.Sort
section
variable {w:World} {B g1 g2:Nat} {V1 V2:Value} {m:Mm}
end
end
end Go.Proofs.YtaijmgkjbbiboaaGreat
