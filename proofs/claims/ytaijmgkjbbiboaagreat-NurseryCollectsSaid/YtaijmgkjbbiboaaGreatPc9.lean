/- Parts of the proof: RObj. -/
import Derived.BigQuiet
import Derived.Test.YtaijmgkjbbiboaaGreatPcA
import Derived.Test.YtaijmgkjbbiboaaGreatPc0
import Derived.Test.YtaijmgkjbbiboaaGreatPc4
import Derived.Test.YtaijmgkjbbiboaaGreatPc5
import Derived.Test.YtaijmgkjbbiboaaGreatPc8
set_option linter.unusedVariables false
set_option linter.unusedSimpArgs false
set_option linter.unusedSectionVars false
set_option maxRecDepth 100000
namespace Go.Proofs.YtaijmgkjbbiboaaGreat
section
open Go.RowKit Go.Sort
/-- the reference's memory: its words in two slices -/
structure RM (w:World) (m:Mm) (A1:Option Addr) (c1:Nat) (A2:Option Addr) (c2:Nat):Prop where
 o:RS w m.old A1 c1
 y:RS w m.yng A2 c2
/-- a slice of words does not lie in block g -/
def Away (A:Option Addr) (n g:Nat):Prop:=n=0 ∨ ∀ b o,A=some ⟨b,o,none⟩→b≠g
def noW (cs:Array Value):Bool:=cs.toList.all fun v=>match v with | .int .u64 _=>false | _=>true
theorem RS.away {w:World} {s:Spc} {A:Option Addr} {c g:Nat} {t:TypeId} {cs:Array Value} (h:RS w s A c) (hk:Bk w g t cs) (hn:noW cs=true):Away A s.ws.length g:=by
 rcases h.sl.2 with h0 | ⟨b,o,e,_,hc⟩
 ·exact .inl h0
 ·rcases Nat.eq_zero_or_pos s.ws.length with h1 | h1
  ·exact .inl h1
  ·refine .inr fun b' o' e' hb=>?_
   rw[e'] at e
   cases e
   subst hb
   have h2:=hc 0 _ (wds_get (List.getElem?_eq_getElem h1))
   rw[Nat.add_zero,hk.cell] at h2
   have h3:=List.all_eq_true.1 hn _ (Array.mem_toList_iff.2 (Array.mem_of_getElem? h2))
   simp at h3
theorem RS.setCell {w:World} {s:Spc} {A:Option Addr} {c:Nat} (h:RS w s A c) {p:Addr} (ha:Away A s.ws.length p.block) (u:Value):RS (w.setCell p u) s A c:=by
 refine⟨⟨h.sl.1,?_⟩,h.cap,h.u,h.b0,h.lim,h.l0,fun b o e=>by simpa [World.setCell] using h.lt b o e⟩
 rcases h.sl.2 with h0 | ⟨b,o,e,hb,hc⟩
 ·exact .inl h0
 ·rcases ha with h1 | h1
  ·exact .inl h1
  ·subst e
   exact .inr ⟨b,o,rfl,by simpa [World.setCell] using hb,fun j x hx=>cellFar u (hc j x hx) (h1 b o rfl)⟩
def rmV (m:Mm) (A1:Option Addr) (c1:Nat) (A2:Option Addr) (c2:Nat):Value:=.agg #[.int .i64 m.old.base,.int .i64 m.old.limit,.slice A1 m.old.ws.length c1,.int .i64 m.yng.base,.int .i64 m.yng.limit,.slice A2 m.yng.ws.length c2]
section
variable {w w':World} {m:Mm} {A1 A2:Option Addr} {c1 c2:Nat}
theorem RM.below (h:RM w m A1 c1 A2 c2) (hb:Below w.heap.size w w'):RM w' m A1 c1 A2 c2:=⟨h.o.below hb,h.y.below hb⟩
theorem RS.ok {s:Spc} {A:Option Addr} {c:Nat} (h:RS w s A c):s.Ok:=⟨h.u,h.b0,h.lim,h.l0⟩
def pkA (m:Mm) (a:Int) (A1 A2:Option Addr):Option Addr:=if m.old.has a=true then A1 else A2
def pkC (m:Mm) (a:Int) (c1 c2:Nat):Nat:=if m.old.has a=true then c1 else c2
theorem RM.pick (h:RM w m A1 c1 A2 c2) (a:Int):RS w (m.sp a) (pkA m a A1 A2) (pkC m a c1 c2):=by
 unfold Mm.sp pkA pkC
 split
 ·exact h.o
 ·exact h.y
theorem boxR (w:World) (m:Mm) (A1:Option Addr) (c1:Nat) (A2:Option Addr) (c2:Nat):Below w.heap.size w (w.alloc (.cells #[.int .i64 m.old.base,.int .i64 m.old.limit,.slice A1 m.old.ws.length c1,.int .i64 m.yng.base,.int .i64 m.yng.limit,.slice A2 m.yng.ws.length c2] 35)):=(Below.refl _ _).alloc (Nat.le_refl _) _
theorem boxR2 (w:World) (m:Mm) (A1:Option Addr) (c1:Nat) (A2:Option Addr) (c2:Nat) (o':Obj):Below w.heap.size w ((w.alloc (.cells #[.int .i64 m.old.base,.int .i64 m.old.limit,.slice A1 m.old.ws.length c1,.int .i64 m.yng.base,.int .i64 m.yng.limit,.slice A2 m.yng.ws.length c2] 35)).alloc o'):=((Below.refl _ _).alloc (Nat.le_refl _) _).alloc (by simp) _
theorem below_set3 {B g:Nat} {w w':World} (h:Below B w w') (hg:B≤g) (x y z:Value):Below B w (((w'.setCell ⟨g,0,none⟩ x).setCell ⟨g,1,none⟩ y).setCell ⟨g,2,none⟩ z) :=
 ((h.setCell (p:=⟨g,0,none⟩) hg x).setCell (p:=⟨g,1,none⟩) hg y).setCell (p:=⟨g,2,none⟩) hg z
theorem Bk.set3 {g:Nat} {t:TypeId} {cs:Array Value} (h:Bk w g t cs) (x y z:Value):Bk (((w.setCell ⟨g,0,none⟩ x).setCell ⟨g,1,none⟩ y).setCell ⟨g,2,none⟩ z) g t (((cs.setIfInBounds 0 x).setIfInBounds 1 y).setIfInBounds 2 z):=((h.set 0 x).set 1 y).set 2 z
theorem Bk.far3 {g g':Nat} {t:TypeId} {cs:Array Value} (h:Bk w g t cs) (hn:g≠g') (x y z:Value) (i j k:Nat):Bk (((w.setCell ⟨g',i,none⟩ x).setCell ⟨g',j,none⟩ y).setCell ⟨g',k,none⟩ z) g t cs:=((h.far (p:=⟨g',i,none⟩) hn x).far (p:=⟨g',j,none⟩) hn y).far (p:=⟨g',k,none⟩) hn z
set_option maxHeartbeats 1000000 in
theorem Rpart_any (h:RM w m A1 c1 A2 c2) (a:Int):Calls Tryz.prog 66 #[rmV m A1 c1 A2 c2,.int .i64 a] w fun e w'=>e=.returned (rsV (m.sp a) (pkA m a A1 A2) (pkC m a c1 c2))∧Below w.heap.size w w':=by
 have HB:=lh (boxR2 w m A1 c1 A2 c2 (.cells #[.int .i64 0,.int .i64 0,.slice none 0 0] 33))
 have cC:=RContains_any (h.below HB.out).o a
 unfold rmV rsV at *
 unfold Mm.sp pkA pkC
 cases ho:m.old.has a with
 | true =>
  simp only[if_true,Bool.false_eq_true,if_false]
  rw[ho] at cC
  clear ho h
  go_enter Tryz.func66,Tryz.ntmps66
  go_wp2_with fail
  refine cC.mono ?_
  rintro e w1 ⟨rfl,hb⟩
  have HB1:=lh (HB.out.trans (hb.mono HB.out.size))
  have q1:=box2_a hb
  have z1:=box2_b hb
  have k0:w1.cell? ⟨w.heap.size,0,none⟩=some (.int .i64 m.old.base):=q1.cell 0
  have k1:w1.cell? ⟨w.heap.size,1,none⟩=some (.int .i64 m.old.limit):=q1.cell 1
  have k2:w1.cell? ⟨w.heap.size,2,none⟩=some (.slice A1 m.old.ws.length c1):=q1.cell 2
  have d0:w1.cell? ⟨w.heap.size+1,0,none⟩=some (.int .i64 0):=z1.cell 0
  have df0:w1.frozen? ⟨w.heap.size+1,0,none⟩=false:=z1.free 0
  have d1:w1.cell? ⟨w.heap.size+1,1,none⟩=some (.int .i64 0):=z1.cell 1
  have df1:w1.frozen? ⟨w.heap.size+1,1,none⟩=false:=z1.free 1
  have d2:w1.cell? ⟨w.heap.size+1,2,none⟩=some (.slice none 0 0):=z1.cell 2
  have df2:w1.frozen? ⟨w.heap.size+1,2,none⟩=false:=z1.free 2
  clear hb q1 z1
  go_wp2_with fail
  exact bodyPost_ret (v:=.agg #[.int .i64 m.old.base,.int .i64 m.old.limit,.slice A1 m.old.ws.length c1]) (by simp[results,Tryz.results66,go_sem,d0,d1,d2]) rfl ⟨rfl,below_set3 HB1.out (by omega) _ _ _⟩
 | false =>
  simp only[if_true,Bool.false_eq_true,if_false]
  rw[ho] at cC
  clear ho h
  go_enter Tryz.func66,Tryz.ntmps66
  go_wp2_with fail
  refine cC.mono ?_
  rintro e w1 ⟨rfl,hb⟩
  have HB1:=lh (HB.out.trans (hb.mono HB.out.size))
  have q1:=box2_a hb
  have z1:=box2_b hb
  have k0:w1.cell? ⟨w.heap.size,3,none⟩=some (.int .i64 m.yng.base):=q1.cell 3
  have k1:w1.cell? ⟨w.heap.size,4,none⟩=some (.int .i64 m.yng.limit):=q1.cell 4
  have k2:w1.cell? ⟨w.heap.size,5,none⟩=some (.slice A2 m.yng.ws.length c2):=q1.cell 5
  have d0:w1.cell? ⟨w.heap.size+1,0,none⟩=some (.int .i64 0):=z1.cell 0
  have df0:w1.frozen? ⟨w.heap.size+1,0,none⟩=false:=z1.free 0
  have d1:w1.cell? ⟨w.heap.size+1,1,none⟩=some (.int .i64 0):=z1.cell 1
  have df1:w1.frozen? ⟨w.heap.size+1,1,none⟩=false:=z1.free 1
  have d2:w1.cell? ⟨w.heap.size+1,2,none⟩=some (.slice none 0 0):=z1.cell 2
  have df2:w1.frozen? ⟨w.heap.size+1,2,none⟩=false:=z1.free 2
  clear hb q1 z1
  go_wp2_with fail
  exact bodyPost_ret (v:=.agg #[.int .i64 m.yng.base,.int .i64 m.yng.limit,.slice A2 m.yng.ws.length c2]) (by simp[results,Tryz.results66,go_sem,d0,d1,d2]) rfl ⟨rfl,below_set3 HB1.out (by omega) _ _ _⟩
set_option maxHeartbeats 1000000 in
theorem RLoad_any (h:RM w m A1 c1 A2 c2) (a:Int):Calls Tryz.prog 24 #[rmV m A1 c1 A2 c2,.int .i64 a] w fun e w'=>e=.returned (atV (m.at_ a))∧Below w.heap.size w w':=by
 have HB:=lh (boxR w m A1 c1 A2 c2)
 have cP:=Rpart_any (h.below HB.out) a
 have HP:=lh (h.pick a)
 have HA:=lh (show(m.sp a).at_ a=m.at_ a from rfl)
 unfold rmV rsV at *
 clear h
 obtain⟨s,hs⟩:∃ s,s=m.sp a:=⟨_,rfl⟩
 obtain⟨A,hA⟩:∃ A,A=pkA m a A1 A2:=⟨_,rfl⟩
 obtain⟨c,hc⟩:∃ c,c=pkC m a c1 c2:=⟨_,rfl⟩
 obtain⟨x,hx⟩:∃ x,x=m.at_ a:=⟨_,rfl⟩
 rw[← hs,← hA,← hc] at *
 rw[← hx] at HA ⊢
 clear hs hA hc hx
 cases x with
 | none =>
  unfold atV
  go_enter Tryz.func24,Tryz.ntmps24
  go_wp2_with fail
  refine cP.mono ?_
  rintro e w1 ⟨rfl,hb⟩
  have HB1:=lh (HB.out.trans (hb.mono HB.out.size))
  have cL:=RSLoad_any (HP.out.below HB1.out) a
  rw[ldV_eq,HA.out] at cL
  unfold atV rsV at cL
  clear hb
  go_wp2_with fail
  refine cL.mono ?_
  rintro e w2 ⟨rfl,hb⟩
  have HB2:=lh (HB1.out.trans (hb.mono HB1.out.size))
  clear hb
  go_wp2_with fail
  go_ret2
  exact⟨rfl,HB2.out⟩
 | some x =>
  unfold atV
  go_enter Tryz.func24,Tryz.ntmps24
  go_wp2_with fail
  refine cP.mono ?_
  rintro e w1 ⟨rfl,hb⟩
  have HB1:=lh (HB.out.trans (hb.mono HB.out.size))
  have cL:=RSLoad_any (HP.out.below HB1.out) a
  rw[ldV_eq,HA.out] at cL
  unfold atV rsV at cL
  clear hb
  go_wp2_with fail
  refine cL.mono ?_
  rintro e w2 ⟨rfl,hb⟩
  have HB2:=lh (HB1.out.trans (hb.mono HB1.out.size))
  clear hb
  go_wp2_with fail
  go_ret2
  exact⟨rfl,HB2.out⟩
def RMStP (w:World) (B1 B2:Option Addr) (m:Mm) (r:Int) (e:Ending) (w':World):Prop:=∃ A1 c1 A2 c2,e=.returned (.tuple #[rmV m A1 c1 A2 c2,.int .i64 r])∧RM w' m A1 c1 A2 c2∧Below w.heap.size w w'∧Nw w.heap.size B1 A1∧Nw w.heap.size B2 A2
set_option maxHeartbeats 4000000 in
theorem RStore_any (h:RM w m A1 c1 A2 c2) (a:Int) {x:Int} (hx:U64 x):Calls Tryz.prog 87 #[rmV m A1 c1 A2 c2,.int .i64 a,.int .u64 x] w (RMStP w A1 A2 (m.store a x).2 (m.store a x).1):=by
 have HB:=lh (boxR2 w m A1 c1 A2 c2 (.cells #[.int .i64 0,.int .i64 0,.slice none 0 0,.int .i64 0,.int .i64 0,.slice none 0 0] 35))
 have cC:=RContains_any (h.below HB.out).o a
 have H:=lh h
 have HX:=lh hx
 unfold rmV rsV at *
 cases ho:m.old.has a with
 | true =>
  have HO:=lh ho
  rw[ho] at cC
  clear ho h hx
  obtain⟨r,hr⟩:∃ r:Int,r=if m.old.has a=true then 0 else 2:=⟨_,rfl⟩
  have HR:=lh hr
  clear hr
  go_enter Tryz.func87,Tryz.ntmps87
  go_wp2_with fail
  refine cC.mono ?_
  rintro e w1 ⟨rfl,hb⟩
  have HB1:=lh (HB.out.trans (hb.mono HB.out.size))
  have hz1:=(box2_b hb).lt
  have Q1:=lh (box2_a hb)
  have Z1:=lh (box2_b hb)
  have k0:w1.cell? ⟨w.heap.size,0,none⟩=some (.int .i64 m.old.base):=Q1.out.cell 0
  have k1:w1.cell? ⟨w.heap.size,1,none⟩=some (.int .i64 m.old.limit):=Q1.out.cell 1
  have k2:w1.cell? ⟨w.heap.size,2,none⟩=some (.slice A1 m.old.ws.length c1):=Q1.out.cell 2
  have cS:=RSStore_any (H.out.below HB1.out).o a HX.out
  rw[← HR.out] at cS
  unfold rsV at cS
  clear hb
  go_wp2_with fail
  refine cS.mono ?_
  rintro e w2 ⟨A',c',rfl,hs2,hb2,hnw⟩
  have HNW:=lh (hnw.mono HB1.out.size)
  clear hnw
  have HS2:=lh hs2
  have HB2:=lh (HB1.out.trans (hb2.mono HB1.out.size))
  have HBB:=lh hb2
  have hz2:=hb2.size
  have Q2:=lh (Q1.out.below hb2 Q1.out.lt)
  have Z2:=lh (Z1.out.below hb2 Z1.out.lt)
  have hlen:Hid ((m.old.put a x).ws.length=m.old.ws.length):=lh (Spc.put_len _ _ _)
  have hbs:Hid ((m.old.put a x).base=m.old.base):=lh (Spc.put_base _ _ _)
  have hlm:Hid ((m.old.put a x).limit=m.old.limit):=lh (Spc.put_limit _ _ _)
  unfold rsV
  rw[hlen.out,hbs.out,hlm.out]
  clear hs2 hb2 k0 k1 k2
  go_upto_region 3 with fail
  obtain⟨w3,hw3⟩:∃ w3,w2.alloc (.cells #[.int .i64 m.old.base,.int .i64 m.old.limit,.slice A' m.old.ws.length c'] 33)=w3:=⟨_,rfl⟩
  have hB3:=HB2.out.alloc HB2.out.size (.cells #[.int .i64 m.old.base,.int .i64 m.old.limit,.slice A' m.old.ws.length c'] 33)
  have q3:=Q2.out.alloc (.cells #[.int .i64 m.old.base,.int .i64 m.old.limit,.slice A' m.old.ws.length c'] 33)
  have z3:=Z2.out.alloc (.cells #[.int .i64 m.old.base,.int .i64 m.old.limit,.slice A' m.old.ws.length c'] 33)
  have n3:=Bk.new w2 33 #[.int .i64 m.old.base,.int .i64 m.old.limit,.slice A' m.old.ws.length c']
  have hs3:RS (w2.alloc (.cells #[.int .i64 m.old.base,.int .i64 m.old.limit,.slice A' m.old.ws.length c'] 33)) (m.old.put a x) A' c':=HS2.out.below ((Below.refl _ _).alloc (Nat.le_refl _) _)
  have ho3:=(H.out.below HB2.out).below ((Below.refl _ w2).alloc (Nat.le_refl _) (.cells #[.int .i64 m.old.base,.int .i64 m.old.limit,.slice A' m.old.ws.length c'] 33))
  rw[hw3] at hB3 q3 z3 n3 hs3 ho3 ⊢
  have hz3:=n3.lt
  have HB3:=lh hB3
  have HS3:=lh hs3
  have HO3:=lh ho3
  have Q3:=lh q3
  have Z3:=lh z3
  have n0:w3.cell? ⟨w2.heap.size,0,none⟩=some (.int .i64 m.old.base):=n3.cell 0
  have n1:w3.cell? ⟨w2.heap.size,1,none⟩=some (.int .i64 m.old.limit):=n3.cell 1
  have n2:w3.cell? ⟨w2.heap.size,2,none⟩=some (.slice A' m.old.ws.length c'):=n3.cell 2
  have k0:w3.cell? ⟨w.heap.size,0,none⟩=some (.int .i64 m.old.base):=q3.cell 0
  have kf0:w3.frozen? ⟨w.heap.size,0,none⟩=false:=q3.free 0
  have k1:w3.cell? ⟨w.heap.size,1,none⟩=some (.int .i64 m.old.limit):=q3.cell 1
  have kf1:w3.frozen? ⟨w.heap.size,1,none⟩=false:=q3.free 1
  have k2:w3.cell? ⟨w.heap.size,2,none⟩=some (.slice A1 m.old.ws.length c1):=q3.cell 2
  have kf2:w3.frozen? ⟨w.heap.size,2,none⟩=false:=q3.free 2
  have k3:w3.cell? ⟨w.heap.size,3,none⟩=some (.int .i64 m.yng.base):=q3.cell 3
  have kf3:w3.frozen? ⟨w.heap.size,3,none⟩=false:=q3.free 3
  have k4:w3.cell? ⟨w.heap.size,4,none⟩=some (.int .i64 m.yng.limit):=q3.cell 4
  have kf4:w3.frozen? ⟨w.heap.size,4,none⟩=false:=q3.free 4
  have k5:w3.cell? ⟨w.heap.size,5,none⟩=some (.slice A2 m.yng.ws.length c2):=q3.cell 5
  have kf5:w3.frozen? ⟨w.heap.size,5,none⟩=false:=q3.free 5
  have hne1:w.heap.size≠w2.heap.size:=by omega
  clear hw3 hB3 q3 z3 n3 hs3 ho3
  go_upto_region 4 with fail
  obtain⟨w4,hw4⟩:∃ w4,(((w3.setCell ⟨w.heap.size,0,none⟩ (.int .i64 m.old.base)).setCell ⟨w.heap.size,1,none⟩ (.int .i64 m.old.limit)).setCell ⟨w.heap.size,2,none⟩ (.slice A' m.old.ws.length c'))=w4:=⟨_,rfl⟩
  have hB4:Below w.heap.size w (((w3.setCell ⟨w.heap.size,0,none⟩ (.int .i64 m.old.base)).setCell ⟨w.heap.size,1,none⟩ (.int .i64 m.old.limit)).setCell ⟨w.heap.size,2,none⟩ (.slice A' m.old.ws.length c')):=((HB3.out.setCell (p:=⟨w.heap.size,0,none⟩) (Nat.le_refl _) _).setCell (p:=⟨w.heap.size,1,none⟩) (Nat.le_refl _) _).setCell (p:=⟨w.heap.size,2,none⟩) (Nat.le_refl _) _
  have q4:Bk (((w3.setCell ⟨w.heap.size,0,none⟩ (.int .i64 m.old.base)).setCell ⟨w.heap.size,1,none⟩ (.int .i64 m.old.limit)).setCell ⟨w.heap.size,2,none⟩ (.slice A' m.old.ws.length c')) w.heap.size 35 #[.int .i64 m.old.base,.int .i64 m.old.limit,.slice A' m.old.ws.length c',.int .i64 m.yng.base,.int .i64 m.yng.limit,.slice A2 m.yng.ws.length c2]:=((Q3.out.set 0 _).set 1 _).set 2 _
  have z4:Bk (((w3.setCell ⟨w.heap.size,0,none⟩ (.int .i64 m.old.base)).setCell ⟨w.heap.size,1,none⟩ (.int .i64 m.old.limit)).setCell ⟨w.heap.size,2,none⟩ (.slice A' m.old.ws.length c')) (w.heap.size+1) 35 #[.int .i64 0,.int .i64 0,.slice none 0 0,.int .i64 0,.int .i64 0,.slice none 0 0]:=Z3.out.far3 (by omega) _ _ _ _ _ _
  rw[hw4] at hB4 q4 z4 ⊢
  have HB4:=lh hB4
  have hs4:RS (((w3.setCell ⟨w.heap.size,0,none⟩ (.int .i64 m.old.base)).setCell ⟨w.heap.size,1,none⟩ (.int .i64 m.old.limit)).setCell ⟨w.heap.size,2,none⟩ (.slice A' m.old.ws.length c')) (m.old.put a x) A' c':=((HS3.out.setCell (p:=⟨w.heap.size,0,none⟩) (HS3.out.away Q3.out rfl) _).setCell (p:=⟨w.heap.size,1,none⟩) (HS3.out.away Q3.out rfl) _).setCell (p:=⟨w.heap.size,2,none⟩) (HS3.out.away Q3.out rfl) _
  rw[hw4] at hs4
  have HS4:=lh hs4
  have HAW:=lh (hs4.away z4 rfl)
  clear k0 k1 k2 k3 k4 k5 kf0 kf1 kf2 kf3 kf4 kf5 n0 n1 n2 hw4 hB4 hs4
  have k0:w4.cell? ⟨w.heap.size,0,none⟩=some (.int .i64 m.old.base):=q4.cell 0
  have k1:w4.cell? ⟨w.heap.size,1,none⟩=some (.int .i64 m.old.limit):=q4.cell 1
  have k2:w4.cell? ⟨w.heap.size,2,none⟩=some (.slice A' m.old.ws.length c'):=q4.cell 2
  have k3:w4.cell? ⟨w.heap.size,3,none⟩=some (.int .i64 m.yng.base):=q4.cell 3
  have k4:w4.cell? ⟨w.heap.size,4,none⟩=some (.int .i64 m.yng.limit):=q4.cell 4
  have k5:w4.cell? ⟨w.heap.size,5,none⟩=some (.slice A2 m.yng.ws.length c2):=q4.cell 5
  have d0:w4.cell? ⟨w.heap.size+1,0,none⟩=some (.int .i64 0):=z4.cell 0
  have df0:w4.frozen? ⟨w.heap.size+1,0,none⟩=false:=z4.free 0
  have d1:w4.cell? ⟨w.heap.size+1,1,none⟩=some (.int .i64 0):=z4.cell 1
  have df1:w4.frozen? ⟨w.heap.size+1,1,none⟩=false:=z4.free 1
  have d2:w4.cell? ⟨w.heap.size+1,2,none⟩=some (.slice none 0 0):=z4.cell 2
  have df2:w4.frozen? ⟨w.heap.size+1,2,none⟩=false:=z4.free 2
  have d3:w4.cell? ⟨w.heap.size+1,3,none⟩=some (.int .i64 0):=z4.cell 3
  have df3:w4.frozen? ⟨w.heap.size+1,3,none⟩=false:=z4.free 3
  have d4:w4.cell? ⟨w.heap.size+1,4,none⟩=some (.int .i64 0):=z4.cell 4
  have df4:w4.frozen? ⟨w.heap.size+1,4,none⟩=false:=z4.free 4
  have d5:w4.cell? ⟨w.heap.size+1,5,none⟩=some (.slice none 0 0):=z4.cell 5
  have df5:w4.frozen? ⟨w.heap.size+1,5,none⟩=false:=z4.free 5
  clear q4 z4
  go_wp2_with fail
  have hbb:=((((((HB4.out.setCell (p:=⟨w.heap.size+1,0,none⟩) (by simp) (.int .i64 m.old.base)).setCell (p:=⟨w.heap.size+1,1,none⟩) (by simp) (.int .i64 m.old.limit)).setCell (p:=⟨w.heap.size+1,2,none⟩) (by simp) (.slice A' m.old.ws.length c')).setCell (p:=⟨w.heap.size+1,3,none⟩) (by simp) (.int .i64 m.yng.base)).setCell (p:=⟨w.heap.size+1,4,none⟩) (by simp) (.int .i64 m.yng.limit)).setCell (p:=⟨w.heap.size+1,5,none⟩) (by simp) (.slice A2 m.yng.ws.length c2))
  have hns:=((((((HS4.out.setCell (p:=⟨w.heap.size+1,0,none⟩) HAW.out (.int .i64 m.old.base)).setCell (p:=⟨w.heap.size+1,1,none⟩) HAW.out (.int .i64 m.old.limit)).setCell (p:=⟨w.heap.size+1,2,none⟩) HAW.out (.slice A' m.old.ws.length c')).setCell (p:=⟨w.heap.size+1,3,none⟩) HAW.out (.int .i64 m.yng.base)).setCell (p:=⟨w.heap.size+1,4,none⟩) HAW.out (.int .i64 m.yng.limit)).setCell (p:=⟨w.heap.size+1,5,none⟩) HAW.out (.slice A2 m.yng.ws.length c2))
  refine bodyPost_ret (v:=.tuple #[.agg #[.int .i64 m.old.base,.int .i64 m.old.limit,.slice A' m.old.ws.length c',.int .i64 m.yng.base,.int .i64 m.yng.limit,.slice A2 m.yng.ws.length c2],.int .i64 r]) (by simp[results,Tryz.results87,go_sem,d0,d1,d2,d3,d4,d5]) rfl ⟨A',c',A2,c2,?_,?_,hbb,HNW.out,Nw.refl _ _⟩
  ·unfold Mm.store Mm.put rmV Mm.has Mm.sp
   simp only[if_pos HO.out,hlen.out,hbs.out,hlm.out,HR.out]
  ·unfold Mm.store Mm.put
   rw[if_pos HO.out]
   exact⟨hns,(H.out.below hbb).y⟩
 | false =>
  have HO:=lh ho
  rw[ho] at cC
  clear ho h hx
  obtain⟨r,hr⟩:∃ r:Int,r=if m.yng.has a=true then 0 else 2:=⟨_,rfl⟩
  have HR:=lh hr
  clear hr
  go_enter Tryz.func87,Tryz.ntmps87
  go_wp2_with fail
  refine cC.mono ?_
  rintro e w1 ⟨rfl,hb⟩
  have HB1:=lh (HB.out.trans (hb.mono HB.out.size))
  have hz1:=(box2_b hb).lt
  have Q1:=lh (box2_a hb)
  have Z1:=lh (box2_b hb)
  have k0:w1.cell? ⟨w.heap.size,3,none⟩=some (.int .i64 m.yng.base):=Q1.out.cell 3
  have k1:w1.cell? ⟨w.heap.size,4,none⟩=some (.int .i64 m.yng.limit):=Q1.out.cell 4
  have k2:w1.cell? ⟨w.heap.size,5,none⟩=some (.slice A2 m.yng.ws.length c2):=Q1.out.cell 5
  have cS:=RSStore_any (H.out.below HB1.out).y a HX.out
  rw[← HR.out] at cS
  unfold rsV at cS
  clear hb
  go_wp2_with fail
  refine cS.mono ?_
  rintro e w2 ⟨A',c',rfl,hs2,hb2,hnw⟩
  have HNW:=lh (hnw.mono HB1.out.size)
  clear hnw
  have HS2:=lh hs2
  have HB2:=lh (HB1.out.trans (hb2.mono HB1.out.size))
  have HBB:=lh hb2
  have hz2:=hb2.size
  have Q2:=lh (Q1.out.below hb2 Q1.out.lt)
  have Z2:=lh (Z1.out.below hb2 Z1.out.lt)
  have hlen:Hid ((m.yng.put a x).ws.length=m.yng.ws.length):=lh (Spc.put_len _ _ _)
  have hbs:Hid ((m.yng.put a x).base=m.yng.base):=lh (Spc.put_base _ _ _)
  have hlm:Hid ((m.yng.put a x).limit=m.yng.limit):=lh (Spc.put_limit _ _ _)
  unfold rsV
  rw[hlen.out,hbs.out,hlm.out]
  clear hs2 hb2 k0 k1 k2
  go_upto_region 6 with fail
  obtain⟨w3,hw3⟩:∃ w3,w2.alloc (.cells #[.int .i64 m.yng.base,.int .i64 m.yng.limit,.slice A' m.yng.ws.length c'] 33)=w3:=⟨_,rfl⟩
  have hB3:=HB2.out.alloc HB2.out.size (.cells #[.int .i64 m.yng.base,.int .i64 m.yng.limit,.slice A' m.yng.ws.length c'] 33)
  have q3:=Q2.out.alloc (.cells #[.int .i64 m.yng.base,.int .i64 m.yng.limit,.slice A' m.yng.ws.length c'] 33)
  have z3:=Z2.out.alloc (.cells #[.int .i64 m.yng.base,.int .i64 m.yng.limit,.slice A' m.yng.ws.length c'] 33)
  have n3:=Bk.new w2 33 #[.int .i64 m.yng.base,.int .i64 m.yng.limit,.slice A' m.yng.ws.length c']
  have hs3:RS (w2.alloc (.cells #[.int .i64 m.yng.base,.int .i64 m.yng.limit,.slice A' m.yng.ws.length c'] 33)) (m.yng.put a x) A' c':=HS2.out.below ((Below.refl _ _).alloc (Nat.le_refl _) _)
  have ho3:=(H.out.below HB2.out).below ((Below.refl _ w2).alloc (Nat.le_refl _) (.cells #[.int .i64 m.yng.base,.int .i64 m.yng.limit,.slice A' m.yng.ws.length c'] 33))
  rw[hw3] at hB3 q3 z3 n3 hs3 ho3 ⊢
  have hz3:=n3.lt
  have HB3:=lh hB3
  have HS3:=lh hs3
  have HO3:=lh ho3
  have Q3:=lh q3
  have Z3:=lh z3
  have n0:w3.cell? ⟨w2.heap.size,0,none⟩=some (.int .i64 m.yng.base):=n3.cell 0
  have n1:w3.cell? ⟨w2.heap.size,1,none⟩=some (.int .i64 m.yng.limit):=n3.cell 1
  have n2:w3.cell? ⟨w2.heap.size,2,none⟩=some (.slice A' m.yng.ws.length c'):=n3.cell 2
  have k0:w3.cell? ⟨w.heap.size,0,none⟩=some (.int .i64 m.old.base):=q3.cell 0
  have kf0:w3.frozen? ⟨w.heap.size,0,none⟩=false:=q3.free 0
  have k1:w3.cell? ⟨w.heap.size,1,none⟩=some (.int .i64 m.old.limit):=q3.cell 1
  have kf1:w3.frozen? ⟨w.heap.size,1,none⟩=false:=q3.free 1
  have k2:w3.cell? ⟨w.heap.size,2,none⟩=some (.slice A1 m.old.ws.length c1):=q3.cell 2
  have kf2:w3.frozen? ⟨w.heap.size,2,none⟩=false:=q3.free 2
  have k3:w3.cell? ⟨w.heap.size,3,none⟩=some (.int .i64 m.yng.base):=q3.cell 3
  have kf3:w3.frozen? ⟨w.heap.size,3,none⟩=false:=q3.free 3
  have k4:w3.cell? ⟨w.heap.size,4,none⟩=some (.int .i64 m.yng.limit):=q3.cell 4
  have kf4:w3.frozen? ⟨w.heap.size,4,none⟩=false:=q3.free 4
  have k5:w3.cell? ⟨w.heap.size,5,none⟩=some (.slice A2 m.yng.ws.length c2):=q3.cell 5
  have kf5:w3.frozen? ⟨w.heap.size,5,none⟩=false:=q3.free 5
  have hne1:w.heap.size≠w2.heap.size:=by omega
  clear hw3 hB3 q3 z3 n3 hs3 ho3
  go_upto_region 7 with fail
  obtain⟨w4,hw4⟩:∃ w4,(((w3.setCell ⟨w.heap.size,3,none⟩ (.int .i64 m.yng.base)).setCell ⟨w.heap.size,4,none⟩ (.int .i64 m.yng.limit)).setCell ⟨w.heap.size,5,none⟩ (.slice A' m.yng.ws.length c'))=w4:=⟨_,rfl⟩
  have hB4:Below w.heap.size w (((w3.setCell ⟨w.heap.size,3,none⟩ (.int .i64 m.yng.base)).setCell ⟨w.heap.size,4,none⟩ (.int .i64 m.yng.limit)).setCell ⟨w.heap.size,5,none⟩ (.slice A' m.yng.ws.length c')):=((HB3.out.setCell (p:=⟨w.heap.size,3,none⟩) (Nat.le_refl _) _).setCell (p:=⟨w.heap.size,4,none⟩) (Nat.le_refl _) _).setCell (p:=⟨w.heap.size,5,none⟩) (Nat.le_refl _) _
  have q4:Bk (((w3.setCell ⟨w.heap.size,3,none⟩ (.int .i64 m.yng.base)).setCell ⟨w.heap.size,4,none⟩ (.int .i64 m.yng.limit)).setCell ⟨w.heap.size,5,none⟩ (.slice A' m.yng.ws.length c')) w.heap.size 35 #[.int .i64 m.old.base,.int .i64 m.old.limit,.slice A1 m.old.ws.length c1,.int .i64 m.yng.base,.int .i64 m.yng.limit,.slice A' m.yng.ws.length c']:=((Q3.out.set 3 _).set 4 _).set 5 _
  have z4:Bk (((w3.setCell ⟨w.heap.size,3,none⟩ (.int .i64 m.yng.base)).setCell ⟨w.heap.size,4,none⟩ (.int .i64 m.yng.limit)).setCell ⟨w.heap.size,5,none⟩ (.slice A' m.yng.ws.length c')) (w.heap.size+1) 35 #[.int .i64 0,.int .i64 0,.slice none 0 0,.int .i64 0,.int .i64 0,.slice none 0 0]:=Z3.out.far3 (by omega) _ _ _ _ _ _
  rw[hw4] at hB4 q4 z4 ⊢
  have HB4:=lh hB4
  have hs4:RS (((w3.setCell ⟨w.heap.size,3,none⟩ (.int .i64 m.yng.base)).setCell ⟨w.heap.size,4,none⟩ (.int .i64 m.yng.limit)).setCell ⟨w.heap.size,5,none⟩ (.slice A' m.yng.ws.length c')) (m.yng.put a x) A' c':=((HS3.out.setCell (p:=⟨w.heap.size,3,none⟩) (HS3.out.away Q3.out rfl) _).setCell (p:=⟨w.heap.size,4,none⟩) (HS3.out.away Q3.out rfl) _).setCell (p:=⟨w.heap.size,5,none⟩) (HS3.out.away Q3.out rfl) _
  rw[hw4] at hs4
  have HS4:=lh hs4
  have HAW:=lh (hs4.away z4 rfl)
  clear k0 k1 k2 k3 k4 k5 kf0 kf1 kf2 kf3 kf4 kf5 n0 n1 n2 hw4 hB4 hs4
  have k0:w4.cell? ⟨w.heap.size,0,none⟩=some (.int .i64 m.old.base):=q4.cell 0
  have k1:w4.cell? ⟨w.heap.size,1,none⟩=some (.int .i64 m.old.limit):=q4.cell 1
  have k2:w4.cell? ⟨w.heap.size,2,none⟩=some (.slice A1 m.old.ws.length c1):=q4.cell 2
  have k3:w4.cell? ⟨w.heap.size,3,none⟩=some (.int .i64 m.yng.base):=q4.cell 3
  have k4:w4.cell? ⟨w.heap.size,4,none⟩=some (.int .i64 m.yng.limit):=q4.cell 4
  have k5:w4.cell? ⟨w.heap.size,5,none⟩=some (.slice A' m.yng.ws.length c'):=q4.cell 5
  have d0:w4.cell? ⟨w.heap.size+1,0,none⟩=some (.int .i64 0):=z4.cell 0
  have df0:w4.frozen? ⟨w.heap.size+1,0,none⟩=false:=z4.free 0
  have d1:w4.cell? ⟨w.heap.size+1,1,none⟩=some (.int .i64 0):=z4.cell 1
  have df1:w4.frozen? ⟨w.heap.size+1,1,none⟩=false:=z4.free 1
  have d2:w4.cell? ⟨w.heap.size+1,2,none⟩=some (.slice none 0 0):=z4.cell 2
  have df2:w4.frozen? ⟨w.heap.size+1,2,none⟩=false:=z4.free 2
  have d3:w4.cell? ⟨w.heap.size+1,3,none⟩=some (.int .i64 0):=z4.cell 3
  have df3:w4.frozen? ⟨w.heap.size+1,3,none⟩=false:=z4.free 3
  have d4:w4.cell? ⟨w.heap.size+1,4,none⟩=some (.int .i64 0):=z4.cell 4
  have df4:w4.frozen? ⟨w.heap.size+1,4,none⟩=false:=z4.free 4
  have d5:w4.cell? ⟨w.heap.size+1,5,none⟩=some (.slice none 0 0):=z4.cell 5
  have df5:w4.frozen? ⟨w.heap.size+1,5,none⟩=false:=z4.free 5
  clear q4 z4
  go_wp2_with fail
  have hbb:=((((((HB4.out.setCell (p:=⟨w.heap.size+1,0,none⟩) (by simp) (.int .i64 m.old.base)).setCell (p:=⟨w.heap.size+1,1,none⟩) (by simp) (.int .i64 m.old.limit)).setCell (p:=⟨w.heap.size+1,2,none⟩) (by simp) (.slice A1 m.old.ws.length c1)).setCell (p:=⟨w.heap.size+1,3,none⟩) (by simp) (.int .i64 m.yng.base)).setCell (p:=⟨w.heap.size+1,4,none⟩) (by simp) (.int .i64 m.yng.limit)).setCell (p:=⟨w.heap.size+1,5,none⟩) (by simp) (.slice A' m.yng.ws.length c'))
  have hns:=((((((HS4.out.setCell (p:=⟨w.heap.size+1,0,none⟩) HAW.out (.int .i64 m.old.base)).setCell (p:=⟨w.heap.size+1,1,none⟩) HAW.out (.int .i64 m.old.limit)).setCell (p:=⟨w.heap.size+1,2,none⟩) HAW.out (.slice A1 m.old.ws.length c1)).setCell (p:=⟨w.heap.size+1,3,none⟩) HAW.out (.int .i64 m.yng.base)).setCell (p:=⟨w.heap.size+1,4,none⟩) HAW.out (.int .i64 m.yng.limit)).setCell (p:=⟨w.heap.size+1,5,none⟩) HAW.out (.slice A' m.yng.ws.length c'))
  refine bodyPost_ret (v:=.tuple #[.agg #[.int .i64 m.old.base,.int .i64 m.old.limit,.slice A1 m.old.ws.length c1,.int .i64 m.yng.base,.int .i64 m.yng.limit,.slice A' m.yng.ws.length c'],.int .i64 r]) (by simp[results,Tryz.results87,go_sem,d0,d1,d2,d3,d4,d5]) rfl ⟨A1,c1,A',c',?_,?_,hbb,Nw.refl _ _,HNW.out⟩
  ·unfold Mm.store Mm.put rmV Mm.has Mm.sp
   simp only[if_neg (show ¬ (m.old.has a=true) by rw[HO.out];simp),hlen.out,hbs.out,hlm.out,HR.out]
  ·unfold Mm.store Mm.put
   rw[if_neg (show ¬ (m.old.has a=true) by rw[HO.out];simp)]
   exact⟨(H.out.below hbb).o,hns⟩
end
end
section
open Go.RowKit Go.Sort
theorem RDecode_some {x:Int} (hx:U64 x) {h:Hdr} (hd:dH x=some h) (w:World):Calls Tryz.prog 48 #[.int .u64 x] w fun e w'=>e=.returned (.tuple #[.agg #[.int .i64 h.k,.int .i64 h.c,.int .i64 h.f],.int .i64 0])∧Below w.heap.size w w':=by
 have:=RDecode_any hx w
 unfold decV at this
 rw[hd] at this
 exact this
theorem RDecode_none {x:Int} (hx:U64 x) (hd:dH x=none) (w:World):Calls Tryz.prog 48 #[.int .u64 x] w fun e w'=>e=.returned (.tuple #[.agg #[.int .i64 0,.int .i64 0,.int .i64 0],.int .i64 11])∧Below w.heap.size w w':=by
 have:=RDecode_any hx w
 unfold decV at this
 rw[hd] at this
 exact this
theorem RDecodeID_zero {x:Int} (hx:U64 x) (hd:dI x=Id.zero) (w:World):Calls Tryz.prog 50 #[.int .u64 x] w fun e w'=>e=.returned (.agg #[.int .i64 0,.int .i64 0])∧Below w.heap.size w w':=by
 have:=RDecodeID_any hx w
 rw[hd] at this
 exact this
theorem RDecodeID_ne {x:Int} (hx:U64 x) (hd:dI x≠Id.zero):∃ p q:Int,Hid ((p == 0)=false)∧∀ w,Calls Tryz.prog 50 #[.int .u64 x] w fun e w'=>e=.returned (.agg #[.int .i64 p,.int .i64 q])∧Below w.heap.size w w':=by
 have h1:=(vI_iff _).1 (dI_ne hd)
 exact⟨(dI x).m,(dI x).s,lh (by simp;omega),fun w=>RDecodeID_any hx w⟩
theorem RWords_of (h:Hdr) (w:World):Calls Tryz.prog 49 #[.agg #[.int .i64 h.k,.int .i64 h.c,.int .i64 h.f]] w fun e w'=>e=.returned (.int .i64 (wH h))∧Below w.heap.size w w':=RWords_any h w
section
variable {w:World} {m:Mm} {A1 A2:Option Addr} {c1 c2:Nat}
set_option maxHeartbeats 4000000 in
theorem RHdr_none (h:RM w m A1 c1 A2 c2) (a:Int) (hx:(m.sp a).at_ a=none):Calls Tryz.prog 20 #[rmV m A1 c1 A2 c2,.int .i64 a] w fun e w'=>e=.returned (hdrV ((2,Hdr.zero)))∧Below w.heap.size w w':=by
 have HP:=lh (h.pick a)
 have HB:=lh (boxR2 w m A1 c1 A2 c2 (.cells #[.int .i64 0,.int .i64 0,.int .i64 0] 58))
 have cP:=Rpart_any (h.below HB.out) a
 obtain⟨s,hs⟩:∃ s,s=m.sp a:=⟨_,rfl⟩
 obtain⟨A,hA⟩:∃ A,A=pkA m a A1 A2:=⟨_,rfl⟩
 obtain⟨c,hc⟩:∃ c,c=pkC m a c1 c2:=⟨_,rfl⟩
 rw[← hs,← hA,← hc] at HP cP
 simp only[← hs] at *
 unfold rmV rsV at *
 clear h hs hA hc
 have hXX:=lh hx
 clear hx
 go_enter Tryz.func20,Tryz.ntmps20
 go_wp2_with fail
 refine cP.mono ?_
 rintro e w1 ⟨rfl,hb⟩
 have HB1:=lh (HB.out.trans (hb.mono HB.out.size))
 have Z1:=lh (box2_b hb)
 have hb2:Below w.heap.size w (w1.alloc (.cells #[.int .i64 s.base,.int .i64 s.limit,.slice A s.ws.length c] 33)):=HB1.out.alloc HB1.out.size _
 have n2:=Bk.new w1 33 #[.int .i64 s.base,.int .i64 s.limit,.slice A s.ws.length c]
 have z2:=Z1.out.alloc (.cells #[.int .i64 s.base,.int .i64 s.limit,.slice A s.ws.length c] 33)
 have hz1:=Z1.out.lt
 clear hb
 go_upto_region 2 with fail
 obtain⟨w2,hw2⟩:∃ w2,w1.alloc (.cells #[.int .i64 s.base,.int .i64 s.limit,.slice A s.ws.length c] 33)=w2:=⟨_,rfl⟩
 rw[hw2] at hb2 n2 z2 ⊢
 have HB2:=lh hb2
 have N2:=lh n2
 have Z2:=lh z2
 have k0:w2.cell? ⟨w1.heap.size,0,none⟩=some (.int .i64 s.base):=n2.cell 0
 have k1:w2.cell? ⟨w1.heap.size,1,none⟩=some (.int .i64 s.limit):=n2.cell 1
 have k2:w2.cell? ⟨w1.heap.size,2,none⟩=some (.slice A s.ws.length c):=n2.cell 2
 have cL:=RSLoad_any (HP.out.below HB2.out) a
 rw[ldV_eq,hXX.out] at cL
 unfold atV rsV at cL
 clear hw2 hb2 n2 z2
 go_wp2_with fail
 refine cL.mono ?_
 rintro e w3 ⟨rfl,hb⟩
 have HB3:=lh (HB2.out.trans (hb.mono HB2.out.size))
 have Z3:=lh (Z2.out.below hb Z2.out.lt)
 have N3:=lh (N2.out.below hb N2.out.lt)
 clear hb k0 k1 k2
 have d0:w3.cell? ⟨w.heap.size+1,0,none⟩=some (.int .i64 0):=Z3.out.cell 0
 have f0:w3.frozen? ⟨w.heap.size+1,0,none⟩=false:=Z3.out.free 0
 have d1:w3.cell? ⟨w.heap.size+1,1,none⟩=some (.int .i64 0):=Z3.out.cell 1
 have f1:w3.frozen? ⟨w.heap.size+1,1,none⟩=false:=Z3.out.free 1
 have d2:w3.cell? ⟨w.heap.size+1,2,none⟩=some (.int .i64 0):=Z3.out.cell 2
 have f2:w3.frozen? ⟨w.heap.size+1,2,none⟩=false:=Z3.out.free 2
 go_wp2_with fail
 exact bodyPost_ret (v:=.tuple #[.agg #[.int .i64 0,.int .i64 0,.int .i64 0],.int .i64 2]) (by simp[results,Tryz.results20,go_sem,d0,d1,d2]) rfl ⟨rfl,below_set3 HB3.out (by omega) _ _ _⟩
set_option maxHeartbeats 4000000 in
theorem RHdr_y0 (h:RM w m A1 c1 A2 c2) (a:Int) {x:Int} (hx:(m.sp a).at_ a=some x) (hux:U64 x) {hh:Hdr} (hd:dH x=some hh) (hy:(m.sp a).at_ (a+1)=none):Calls Tryz.prog 20 #[rmV m A1 c1 A2 c2,.int .i64 a] w fun e w'=>e=.returned (hdrV ((11,Hdr.zero)))∧Below w.heap.size w w':=by
 have cD:=fun w=>RDecode_some hux hd w
 have hbx:=Spc.has_iff.1 (Spc.at_has hx)
 have hbl0:=(h.pick a).b0
 have hbl1:=(h.pick a).lim
 have hbl2:=(h.pick a).l0
 have hYY:=lh hy
 clear hy
 clear hux hd
 have HP:=lh (h.pick a)
 have HB:=lh (boxR2 w m A1 c1 A2 c2 (.cells #[.int .i64 0,.int .i64 0,.int .i64 0] 58))
 have cP:=Rpart_any (h.below HB.out) a
 obtain⟨s,hs⟩:∃ s,s=m.sp a:=⟨_,rfl⟩
 obtain⟨A,hA⟩:∃ A,A=pkA m a A1 A2:=⟨_,rfl⟩
 obtain⟨c,hc⟩:∃ c,c=pkC m a c1 c2:=⟨_,rfl⟩
 rw[← hs,← hA,← hc] at HP cP
 simp only[← hs] at *
 unfold rmV rsV at *
 clear h hs hA hc
 have hXX:=lh hx
 clear hx
 go_enter Tryz.func20,Tryz.ntmps20
 go_wp2_with fail
 refine cP.mono ?_
 rintro e w1 ⟨rfl,hb⟩
 have HB1:=lh (HB.out.trans (hb.mono HB.out.size))
 have Z1:=lh (box2_b hb)
 have hb2:Below w.heap.size w (w1.alloc (.cells #[.int .i64 s.base,.int .i64 s.limit,.slice A s.ws.length c] 33)):=HB1.out.alloc HB1.out.size _
 have n2:=Bk.new w1 33 #[.int .i64 s.base,.int .i64 s.limit,.slice A s.ws.length c]
 have z2:=Z1.out.alloc (.cells #[.int .i64 s.base,.int .i64 s.limit,.slice A s.ws.length c] 33)
 have hz1:=Z1.out.lt
 clear hb
 go_upto_region 2 with fail
 obtain⟨w2,hw2⟩:∃ w2,w1.alloc (.cells #[.int .i64 s.base,.int .i64 s.limit,.slice A s.ws.length c] 33)=w2:=⟨_,rfl⟩
 rw[hw2] at hb2 n2 z2 ⊢
 have HB2:=lh hb2
 have N2:=lh n2
 have Z2:=lh z2
 have k0:w2.cell? ⟨w1.heap.size,0,none⟩=some (.int .i64 s.base):=n2.cell 0
 have k1:w2.cell? ⟨w1.heap.size,1,none⟩=some (.int .i64 s.limit):=n2.cell 1
 have k2:w2.cell? ⟨w1.heap.size,2,none⟩=some (.slice A s.ws.length c):=n2.cell 2
 have cL:=RSLoad_any (HP.out.below HB2.out) a
 rw[ldV_eq,hXX.out] at cL
 unfold atV rsV at cL
 clear hw2 hb2 n2 z2
 go_wp2_with fail
 refine cL.mono ?_
 rintro e w3 ⟨rfl,hb⟩
 have HB3:=lh (HB2.out.trans (hb.mono HB2.out.size))
 have Z3:=lh (Z2.out.below hb Z2.out.lt)
 have N3:=lh (N2.out.below hb N2.out.lt)
 clear hb k0 k1 k2
 go_wp2_with fail
 refine(cD _).mono ?_
 rintro e w4 ⟨rfl,hb⟩
 have HB4:=lh (HB3.out.trans (hb.mono HB3.out.size))
 have Z4:=lh (Z3.out.below hb Z3.out.lt)
 have N4:=lh (N3.out.below hb N3.out.lt)
 have hb5:Below w.heap.size w (w4.alloc (.cells #[.int .i64 hh.k,.int .i64 hh.c,.int .i64 hh.f] 58)):=HB4.out.alloc HB4.out.size _
 have n5:=N4.out.alloc (.cells #[.int .i64 hh.k,.int .i64 hh.c,.int .i64 hh.f] 58)
 have z5:=Z4.out.alloc (.cells #[.int .i64 hh.k,.int .i64 hh.c,.int .i64 hh.f] 58)
 have q5:=Bk.new w4 58 #[.int .i64 hh.k,.int .i64 hh.c,.int .i64 hh.f]
 clear hb
 go_upto_region 6 with fail
 obtain⟨w5,hw5⟩:∃ w5,w4.alloc (.cells #[.int .i64 hh.k,.int .i64 hh.c,.int .i64 hh.f] 58)=w5:=⟨_,rfl⟩
 rw[hw5] at hb5 n5 z5 q5 ⊢
 have HB5:=lh hb5
 have N5:=lh n5
 have Z5:=lh z5
 have Q5:=lh q5
 have k0:w5.cell? ⟨w1.heap.size,0,none⟩=some (.int .i64 s.base):=n5.cell 0
 have k1:w5.cell? ⟨w1.heap.size,1,none⟩=some (.int .i64 s.limit):=n5.cell 1
 have k2:w5.cell? ⟨w1.heap.size,2,none⟩=some (.slice A s.ws.length c):=n5.cell 2
 have cL2:=RSLoad_any (HP.out.below HB5.out) (a+1)
 rw[ldV_eq,hYY.out] at cL2
 unfold atV rsV at cL2
 clear hw5 hb5 n5 z5 q5
 go_wp2_with fail
 refine cL2.mono ?_
 rintro e w6 ⟨rfl,hb⟩
 have HB6:=lh (HB5.out.trans (hb.mono HB5.out.size))
 have Z6:=lh (Z5.out.below hb Z5.out.lt)
 have N6:=lh (N5.out.below hb N5.out.lt)
 have Q6:=lh (Q5.out.below hb Q5.out.lt)
 have hz6:=Z6.out.lt
 clear hb k0 k1 k2
 have hRG:True:=trivial
 go_wp2_with fail
 refine wp_region_quiet_below (by kernel_rfl) (by kernel_rfl) ?_
 repeat (first | go_big_quiet_step (fail) | quiet_step (fail))
 refine wpQuiet_nil ?_
 intro w7 hw'
 have hb7:=quiet_below_one hw'
 have HB7:=lh (HB6.out.trans (hb7.mono HB6.out.size))
 have Z7:=lh (Z6.out.below hb7 Z6.out.lt)
 have Q7:=lh (Q6.out.below hb7 Q6.out.lt)
 clear hw' hb7 hRG
 have d0:w7.cell? ⟨w.heap.size+1,0,none⟩=some (.int .i64 0):=Z7.out.cell 0
 have f0:w7.frozen? ⟨w.heap.size+1,0,none⟩=false:=Z7.out.free 0
 have d1:w7.cell? ⟨w.heap.size+1,1,none⟩=some (.int .i64 0):=Z7.out.cell 1
 have f1:w7.frozen? ⟨w.heap.size+1,1,none⟩=false:=Z7.out.free 1
 have d2:w7.cell? ⟨w.heap.size+1,2,none⟩=some (.int .i64 0):=Z7.out.cell 2
 have f2:w7.frozen? ⟨w.heap.size+1,2,none⟩=false:=Z7.out.free 2
 go_wp2_with fail
 exact bodyPost_ret (v:=.tuple #[.agg #[.int .i64 0,.int .i64 0,.int .i64 0],.int .i64 11]) (by simp[results,Tryz.results20,go_sem,d0,d1,d2]) rfl ⟨rfl,below_set3 HB7.out (by omega) _ _ _⟩
set_option maxHeartbeats 4000000 in
theorem RHdr_y1 (h:RM w m A1 c1 A2 c2) (a:Int) {x:Int} (hx:(m.sp a).at_ a=some x) (hux:U64 x) (hd:dH x=none) (hy:(m.sp a).at_ (a+1)=none):Calls Tryz.prog 20 #[rmV m A1 c1 A2 c2,.int .i64 a] w fun e w'=>e=.returned (hdrV ((11,Hdr.zero)))∧Below w.heap.size w w':=by
 have cD:=fun w=>RDecode_none hux hd w
 have hbx:=Spc.has_iff.1 (Spc.at_has hx)
 have hbl0:=(h.pick a).b0
 have hbl1:=(h.pick a).lim
 have hbl2:=(h.pick a).l0
 have hYY:=lh hy
 clear hy
 clear hux hd
 have HP:=lh (h.pick a)
 have HB:=lh (boxR2 w m A1 c1 A2 c2 (.cells #[.int .i64 0,.int .i64 0,.int .i64 0] 58))
 have cP:=Rpart_any (h.below HB.out) a
 obtain⟨s,hs⟩:∃ s,s=m.sp a:=⟨_,rfl⟩
 obtain⟨A,hA⟩:∃ A,A=pkA m a A1 A2:=⟨_,rfl⟩
 obtain⟨c,hc⟩:∃ c,c=pkC m a c1 c2:=⟨_,rfl⟩
 rw[← hs,← hA,← hc] at HP cP
 simp only[← hs] at *
 unfold rmV rsV at *
 clear h hs hA hc
 have hXX:=lh hx
 clear hx
 go_enter Tryz.func20,Tryz.ntmps20
 go_wp2_with fail
 refine cP.mono ?_
 rintro e w1 ⟨rfl,hb⟩
 have HB1:=lh (HB.out.trans (hb.mono HB.out.size))
 have Z1:=lh (box2_b hb)
 have hb2:Below w.heap.size w (w1.alloc (.cells #[.int .i64 s.base,.int .i64 s.limit,.slice A s.ws.length c] 33)):=HB1.out.alloc HB1.out.size _
 have n2:=Bk.new w1 33 #[.int .i64 s.base,.int .i64 s.limit,.slice A s.ws.length c]
 have z2:=Z1.out.alloc (.cells #[.int .i64 s.base,.int .i64 s.limit,.slice A s.ws.length c] 33)
 have hz1:=Z1.out.lt
 clear hb
 go_upto_region 2 with fail
 obtain⟨w2,hw2⟩:∃ w2,w1.alloc (.cells #[.int .i64 s.base,.int .i64 s.limit,.slice A s.ws.length c] 33)=w2:=⟨_,rfl⟩
 rw[hw2] at hb2 n2 z2 ⊢
 have HB2:=lh hb2
 have N2:=lh n2
 have Z2:=lh z2
 have k0:w2.cell? ⟨w1.heap.size,0,none⟩=some (.int .i64 s.base):=n2.cell 0
 have k1:w2.cell? ⟨w1.heap.size,1,none⟩=some (.int .i64 s.limit):=n2.cell 1
 have k2:w2.cell? ⟨w1.heap.size,2,none⟩=some (.slice A s.ws.length c):=n2.cell 2
 have cL:=RSLoad_any (HP.out.below HB2.out) a
 rw[ldV_eq,hXX.out] at cL
 unfold atV rsV at cL
 clear hw2 hb2 n2 z2
 go_wp2_with fail
 refine cL.mono ?_
 rintro e w3 ⟨rfl,hb⟩
 have HB3:=lh (HB2.out.trans (hb.mono HB2.out.size))
 have Z3:=lh (Z2.out.below hb Z2.out.lt)
 have N3:=lh (N2.out.below hb N2.out.lt)
 clear hb k0 k1 k2
 go_wp2_with fail
 refine(cD _).mono ?_
 rintro e w4 ⟨rfl,hb⟩
 have HB4:=lh (HB3.out.trans (hb.mono HB3.out.size))
 have Z4:=lh (Z3.out.below hb Z3.out.lt)
 have N4:=lh (N3.out.below hb N3.out.lt)
 have hb5:Below w.heap.size w (w4.alloc (.cells #[.int .i64 0,.int .i64 0,.int .i64 0] 58)):=HB4.out.alloc HB4.out.size _
 have n5:=N4.out.alloc (.cells #[.int .i64 0,.int .i64 0,.int .i64 0] 58)
 have z5:=Z4.out.alloc (.cells #[.int .i64 0,.int .i64 0,.int .i64 0] 58)
 have q5:=Bk.new w4 58 #[.int .i64 0,.int .i64 0,.int .i64 0]
 clear hb
 go_upto_region 6 with fail
 obtain⟨w5,hw5⟩:∃ w5,w4.alloc (.cells #[.int .i64 0,.int .i64 0,.int .i64 0] 58)=w5:=⟨_,rfl⟩
 rw[hw5] at hb5 n5 z5 q5 ⊢
 have HB5:=lh hb5
 have N5:=lh n5
 have Z5:=lh z5
 have Q5:=lh q5
 have k0:w5.cell? ⟨w1.heap.size,0,none⟩=some (.int .i64 s.base):=n5.cell 0
 have k1:w5.cell? ⟨w1.heap.size,1,none⟩=some (.int .i64 s.limit):=n5.cell 1
 have k2:w5.cell? ⟨w1.heap.size,2,none⟩=some (.slice A s.ws.length c):=n5.cell 2
 have cL2:=RSLoad_any (HP.out.below HB5.out) (a+1)
 rw[ldV_eq,hYY.out] at cL2
 unfold atV rsV at cL2
 clear hw5 hb5 n5 z5 q5
 go_wp2_with fail
 refine cL2.mono ?_
 rintro e w6 ⟨rfl,hb⟩
 have HB6:=lh (HB5.out.trans (hb.mono HB5.out.size))
 have Z6:=lh (Z5.out.below hb Z5.out.lt)
 have N6:=lh (N5.out.below hb N5.out.lt)
 have Q6:=lh (Q5.out.below hb Q5.out.lt)
 have hz6:=Z6.out.lt
 clear hb k0 k1 k2
 have hRG:True:=trivial
 go_wp2_with fail
 refine wp_region_quiet_below (by kernel_rfl) (by kernel_rfl) ?_
 repeat (first | go_big_quiet_step (fail) | quiet_step (fail))
 refine wpQuiet_nil ?_
 intro w7 hw'
 have hb7:=quiet_below_one hw'
 have HB7:=lh (HB6.out.trans (hb7.mono HB6.out.size))
 have Z7:=lh (Z6.out.below hb7 Z6.out.lt)
 have Q7:=lh (Q6.out.below hb7 Q6.out.lt)
 clear hw' hb7 hRG
 have d0:w7.cell? ⟨w.heap.size+1,0,none⟩=some (.int .i64 0):=Z7.out.cell 0
 have f0:w7.frozen? ⟨w.heap.size+1,0,none⟩=false:=Z7.out.free 0
 have d1:w7.cell? ⟨w.heap.size+1,1,none⟩=some (.int .i64 0):=Z7.out.cell 1
 have f1:w7.frozen? ⟨w.heap.size+1,1,none⟩=false:=Z7.out.free 1
 have d2:w7.cell? ⟨w.heap.size+1,2,none⟩=some (.int .i64 0):=Z7.out.cell 2
 have f2:w7.frozen? ⟨w.heap.size+1,2,none⟩=false:=Z7.out.free 2
 go_wp2_with fail
 exact bodyPost_ret (v:=.tuple #[.agg #[.int .i64 0,.int .i64 0,.int .i64 0],.int .i64 11]) (by simp[results,Tryz.results20,go_sem,d0,d1,d2]) rfl ⟨rfl,below_set3 HB7.out (by omega) _ _ _⟩
set_option maxHeartbeats 4000000 in
theorem RHdr_d0 (h:RM w m A1 c1 A2 c2) (a:Int) {x:Int} (hx:(m.sp a).at_ a=some x) (hux:U64 x) {v:Int} (hd:dH x=none) (hy:(m.sp a).at_ (a+1)=some v):Calls Tryz.prog 20 #[rmV m A1 c1 A2 c2,.int .i64 a] w fun e w'=>e=.returned (hdrV ((11,Hdr.zero)))∧Below w.heap.size w w':=by
 have cD:=fun w=>RDecode_none hux hd w
 have hbx:=Spc.has_iff.1 (Spc.at_has hx)
 have hbl0:=(h.pick a).b0
 have hbl1:=(h.pick a).lim
 have hbl2:=(h.pick a).l0
 have hYY:=lh hy
 clear hy
 clear hux hd
 have HP:=lh (h.pick a)
 have HB:=lh (boxR2 w m A1 c1 A2 c2 (.cells #[.int .i64 0,.int .i64 0,.int .i64 0] 58))
 have cP:=Rpart_any (h.below HB.out) a
 obtain⟨s,hs⟩:∃ s,s=m.sp a:=⟨_,rfl⟩
 obtain⟨A,hA⟩:∃ A,A=pkA m a A1 A2:=⟨_,rfl⟩
 obtain⟨c,hc⟩:∃ c,c=pkC m a c1 c2:=⟨_,rfl⟩
 rw[← hs,← hA,← hc] at HP cP
 simp only[← hs] at *
 unfold rmV rsV at *
 clear h hs hA hc
 have hXX:=lh hx
 clear hx
 go_enter Tryz.func20,Tryz.ntmps20
 go_wp2_with fail
 refine cP.mono ?_
 rintro e w1 ⟨rfl,hb⟩
 have HB1:=lh (HB.out.trans (hb.mono HB.out.size))
 have Z1:=lh (box2_b hb)
 have hb2:Below w.heap.size w (w1.alloc (.cells #[.int .i64 s.base,.int .i64 s.limit,.slice A s.ws.length c] 33)):=HB1.out.alloc HB1.out.size _
 have n2:=Bk.new w1 33 #[.int .i64 s.base,.int .i64 s.limit,.slice A s.ws.length c]
 have z2:=Z1.out.alloc (.cells #[.int .i64 s.base,.int .i64 s.limit,.slice A s.ws.length c] 33)
 have hz1:=Z1.out.lt
 clear hb
 go_upto_region 2 with fail
 obtain⟨w2,hw2⟩:∃ w2,w1.alloc (.cells #[.int .i64 s.base,.int .i64 s.limit,.slice A s.ws.length c] 33)=w2:=⟨_,rfl⟩
 rw[hw2] at hb2 n2 z2 ⊢
 have HB2:=lh hb2
 have N2:=lh n2
 have Z2:=lh z2
 have k0:w2.cell? ⟨w1.heap.size,0,none⟩=some (.int .i64 s.base):=n2.cell 0
 have k1:w2.cell? ⟨w1.heap.size,1,none⟩=some (.int .i64 s.limit):=n2.cell 1
 have k2:w2.cell? ⟨w1.heap.size,2,none⟩=some (.slice A s.ws.length c):=n2.cell 2
 have cL:=RSLoad_any (HP.out.below HB2.out) a
 rw[ldV_eq,hXX.out] at cL
 unfold atV rsV at cL
 clear hw2 hb2 n2 z2
 go_wp2_with fail
 refine cL.mono ?_
 rintro e w3 ⟨rfl,hb⟩
 have HB3:=lh (HB2.out.trans (hb.mono HB2.out.size))
 have Z3:=lh (Z2.out.below hb Z2.out.lt)
 have N3:=lh (N2.out.below hb N2.out.lt)
 clear hb k0 k1 k2
 go_wp2_with fail
 refine(cD _).mono ?_
 rintro e w4 ⟨rfl,hb⟩
 have HB4:=lh (HB3.out.trans (hb.mono HB3.out.size))
 have Z4:=lh (Z3.out.below hb Z3.out.lt)
 have N4:=lh (N3.out.below hb N3.out.lt)
 have hb5:Below w.heap.size w (w4.alloc (.cells #[.int .i64 0,.int .i64 0,.int .i64 0] 58)):=HB4.out.alloc HB4.out.size _
 have n5:=N4.out.alloc (.cells #[.int .i64 0,.int .i64 0,.int .i64 0] 58)
 have z5:=Z4.out.alloc (.cells #[.int .i64 0,.int .i64 0,.int .i64 0] 58)
 have q5:=Bk.new w4 58 #[.int .i64 0,.int .i64 0,.int .i64 0]
 clear hb
 go_upto_region 6 with fail
 obtain⟨w5,hw5⟩:∃ w5,w4.alloc (.cells #[.int .i64 0,.int .i64 0,.int .i64 0] 58)=w5:=⟨_,rfl⟩
 rw[hw5] at hb5 n5 z5 q5 ⊢
 have HB5:=lh hb5
 have N5:=lh n5
 have Z5:=lh z5
 have Q5:=lh q5
 have k0:w5.cell? ⟨w1.heap.size,0,none⟩=some (.int .i64 s.base):=n5.cell 0
 have k1:w5.cell? ⟨w1.heap.size,1,none⟩=some (.int .i64 s.limit):=n5.cell 1
 have k2:w5.cell? ⟨w1.heap.size,2,none⟩=some (.slice A s.ws.length c):=n5.cell 2
 have cL2:=RSLoad_any (HP.out.below HB5.out) (a+1)
 rw[ldV_eq,hYY.out] at cL2
 unfold atV rsV at cL2
 clear hw5 hb5 n5 z5 q5
 go_wp2_with fail
 refine cL2.mono ?_
 rintro e w6 ⟨rfl,hb⟩
 have HB6:=lh (HB5.out.trans (hb.mono HB5.out.size))
 have Z6:=lh (Z5.out.below hb Z5.out.lt)
 have N6:=lh (N5.out.below hb N5.out.lt)
 have Q6:=lh (Q5.out.below hb Q5.out.lt)
 have hz6:=Z6.out.lt
 clear hb k0 k1 k2
 have hRG:True:=trivial
 go_wp2_with fail
 refine wp_region_quiet_below (by kernel_rfl) (by kernel_rfl) ?_
 repeat (first | go_big_quiet_step (fail) | quiet_step (fail))
 refine wpQuiet_nil ?_
 intro w7 hw'
 have hb7:=quiet_below_one hw'
 have HB7:=lh (HB6.out.trans (hb7.mono HB6.out.size))
 have Z7:=lh (Z6.out.below hb7 Z6.out.lt)
 have Q7:=lh (Q6.out.below hb7 Q6.out.lt)
 clear hw' hb7 hRG
 have d0:w7.cell? ⟨w.heap.size+1,0,none⟩=some (.int .i64 0):=Z7.out.cell 0
 have f0:w7.frozen? ⟨w.heap.size+1,0,none⟩=false:=Z7.out.free 0
 have d1:w7.cell? ⟨w.heap.size+1,1,none⟩=some (.int .i64 0):=Z7.out.cell 1
 have f1:w7.frozen? ⟨w.heap.size+1,1,none⟩=false:=Z7.out.free 1
 have d2:w7.cell? ⟨w.heap.size+1,2,none⟩=some (.int .i64 0):=Z7.out.cell 2
 have f2:w7.frozen? ⟨w.heap.size+1,2,none⟩=false:=Z7.out.free 2
 go_wp2_with fail
 exact bodyPost_ret (v:=.tuple #[.agg #[.int .i64 0,.int .i64 0,.int .i64 0],.int .i64 11]) (by simp[results,Tryz.results20,go_sem,d0,d1,d2]) rfl ⟨rfl,below_set3 HB7.out (by omega) _ _ _⟩
set_option maxHeartbeats 4000000 in
theorem RHdr_id (h:RM w m A1 c1 A2 c2) (a:Int) {x:Int} (hx:(m.sp a).at_ a=some x) (hux:U64 x) {hh:Hdr} (hd:dH x=some hh) {v:Int} (hy:(m.sp a).at_ (a+1)=some v) (huv:U64 v) (hi:dI v=Id.zero):Calls Tryz.prog 20 #[rmV m A1 c1 A2 c2,.int .i64 a] w fun e w'=>e=.returned (hdrV ((11,Hdr.zero)))∧Below w.heap.size w w':=by
 have cD:=fun w=>RDecode_some hux hd w
 have hbx:=Spc.has_iff.1 (Spc.at_has hx)
 have hbl0:=(h.pick a).b0
 have hbl1:=(h.pick a).lim
 have hbl2:=(h.pick a).l0
 have hYY:=lh hy
 clear hy
 clear hux hd
 have cI:=fun w=>RDecodeID_zero huv hi w
 clear huv hi
 have HP:=lh (h.pick a)
 have HB:=lh (boxR2 w m A1 c1 A2 c2 (.cells #[.int .i64 0,.int .i64 0,.int .i64 0] 58))
 have cP:=Rpart_any (h.below HB.out) a
 obtain⟨s,hs⟩:∃ s,s=m.sp a:=⟨_,rfl⟩
 obtain⟨A,hA⟩:∃ A,A=pkA m a A1 A2:=⟨_,rfl⟩
 obtain⟨c,hc⟩:∃ c,c=pkC m a c1 c2:=⟨_,rfl⟩
 rw[← hs,← hA,← hc] at HP cP
 simp only[← hs] at *
 unfold rmV rsV at *
 clear h hs hA hc
 have hXX:=lh hx
 clear hx
 go_enter Tryz.func20,Tryz.ntmps20
 go_wp2_with fail
 refine cP.mono ?_
 rintro e w1 ⟨rfl,hb⟩
 have HB1:=lh (HB.out.trans (hb.mono HB.out.size))
 have Z1:=lh (box2_b hb)
 have hb2:Below w.heap.size w (w1.alloc (.cells #[.int .i64 s.base,.int .i64 s.limit,.slice A s.ws.length c] 33)):=HB1.out.alloc HB1.out.size _
 have n2:=Bk.new w1 33 #[.int .i64 s.base,.int .i64 s.limit,.slice A s.ws.length c]
 have z2:=Z1.out.alloc (.cells #[.int .i64 s.base,.int .i64 s.limit,.slice A s.ws.length c] 33)
 have hz1:=Z1.out.lt
 clear hb
 go_upto_region 2 with fail
 obtain⟨w2,hw2⟩:∃ w2,w1.alloc (.cells #[.int .i64 s.base,.int .i64 s.limit,.slice A s.ws.length c] 33)=w2:=⟨_,rfl⟩
 rw[hw2] at hb2 n2 z2 ⊢
 have HB2:=lh hb2
 have N2:=lh n2
 have Z2:=lh z2
 have k0:w2.cell? ⟨w1.heap.size,0,none⟩=some (.int .i64 s.base):=n2.cell 0
 have k1:w2.cell? ⟨w1.heap.size,1,none⟩=some (.int .i64 s.limit):=n2.cell 1
 have k2:w2.cell? ⟨w1.heap.size,2,none⟩=some (.slice A s.ws.length c):=n2.cell 2
 have cL:=RSLoad_any (HP.out.below HB2.out) a
 rw[ldV_eq,hXX.out] at cL
 unfold atV rsV at cL
 clear hw2 hb2 n2 z2
 go_wp2_with fail
 refine cL.mono ?_
 rintro e w3 ⟨rfl,hb⟩
 have HB3:=lh (HB2.out.trans (hb.mono HB2.out.size))
 have Z3:=lh (Z2.out.below hb Z2.out.lt)
 have N3:=lh (N2.out.below hb N2.out.lt)
 clear hb k0 k1 k2
 go_wp2_with fail
 refine(cD _).mono ?_
 rintro e w4 ⟨rfl,hb⟩
 have HB4:=lh (HB3.out.trans (hb.mono HB3.out.size))
 have Z4:=lh (Z3.out.below hb Z3.out.lt)
 have N4:=lh (N3.out.below hb N3.out.lt)
 have hb5:Below w.heap.size w (w4.alloc (.cells #[.int .i64 hh.k,.int .i64 hh.c,.int .i64 hh.f] 58)):=HB4.out.alloc HB4.out.size _
 have n5:=N4.out.alloc (.cells #[.int .i64 hh.k,.int .i64 hh.c,.int .i64 hh.f] 58)
 have z5:=Z4.out.alloc (.cells #[.int .i64 hh.k,.int .i64 hh.c,.int .i64 hh.f] 58)
 have q5:=Bk.new w4 58 #[.int .i64 hh.k,.int .i64 hh.c,.int .i64 hh.f]
 clear hb
 go_upto_region 6 with fail
 obtain⟨w5,hw5⟩:∃ w5,w4.alloc (.cells #[.int .i64 hh.k,.int .i64 hh.c,.int .i64 hh.f] 58)=w5:=⟨_,rfl⟩
 rw[hw5] at hb5 n5 z5 q5 ⊢
 have HB5:=lh hb5
 have N5:=lh n5
 have Z5:=lh z5
 have Q5:=lh q5
 have k0:w5.cell? ⟨w1.heap.size,0,none⟩=some (.int .i64 s.base):=n5.cell 0
 have k1:w5.cell? ⟨w1.heap.size,1,none⟩=some (.int .i64 s.limit):=n5.cell 1
 have k2:w5.cell? ⟨w1.heap.size,2,none⟩=some (.slice A s.ws.length c):=n5.cell 2
 have cL2:=RSLoad_any (HP.out.below HB5.out) (a+1)
 rw[ldV_eq,hYY.out] at cL2
 unfold atV rsV at cL2
 clear hw5 hb5 n5 z5 q5
 go_wp2_with fail
 refine cL2.mono ?_
 rintro e w6 ⟨rfl,hb⟩
 have HB6:=lh (HB5.out.trans (hb.mono HB5.out.size))
 have Z6:=lh (Z5.out.below hb Z5.out.lt)
 have N6:=lh (N5.out.below hb N5.out.lt)
 have Q6:=lh (Q5.out.below hb Q5.out.lt)
 have hz6:=Z6.out.lt
 clear hb k0 k1 k2
 have cI2:=fun dd os=>Calls.regrown_of (cI (grow (redrawn w6 dd) os))
 have hRG:True:=trivial
 go_wp2_with fail
 refine wp_region_quiet_below (by kernel_rfl) (by kernel_rfl) ?_
 repeat (first | go_big_quiet_step (first | with_reducible exact cI2 _ _) | quiet_step (first | with_reducible exact cI2 _ _))
 refine wpQuiet_nil ?_
 intro w7 hw'
 have hb7:=quiet_below_one hw'
 have HB7:=lh (HB6.out.trans (hb7.mono HB6.out.size))
 have Z7:=lh (Z6.out.below hb7 Z6.out.lt)
 have Q7:=lh (Q6.out.below hb7 Q6.out.lt)
 clear hw' hb7 hRG cI2
 have d0:w7.cell? ⟨w.heap.size+1,0,none⟩=some (.int .i64 0):=Z7.out.cell 0
 have f0:w7.frozen? ⟨w.heap.size+1,0,none⟩=false:=Z7.out.free 0
 have d1:w7.cell? ⟨w.heap.size+1,1,none⟩=some (.int .i64 0):=Z7.out.cell 1
 have f1:w7.frozen? ⟨w.heap.size+1,1,none⟩=false:=Z7.out.free 1
 have d2:w7.cell? ⟨w.heap.size+1,2,none⟩=some (.int .i64 0):=Z7.out.cell 2
 have f2:w7.frozen? ⟨w.heap.size+1,2,none⟩=false:=Z7.out.free 2
 go_wp2_with fail
 exact bodyPost_ret (v:=.tuple #[.agg #[.int .i64 0,.int .i64 0,.int .i64 0],.int .i64 11]) (by simp[results,Tryz.results20,go_sem,d0,d1,d2]) rfl ⟨rfl,below_set3 HB7.out (by omega) _ _ _⟩
set_option maxHeartbeats 4000000 in
theorem RHdr_far (h:RM w m A1 c1 A2 c2) (a:Int) {x:Int} (hx:(m.sp a).at_ a=some x) (hux:U64 x) {hh:Hdr} (hd:dH x=some hh) {v:Int} (hy:(m.sp a).at_ (a+1)=some v) (huv:U64 v) (hi:dI v≠Id.zero) (hw:(m.sp a).has (a+wH hh - 1)=false):Calls Tryz.prog 20 #[rmV m A1 c1 A2 c2,.int .i64 a] w fun e w'=>e=.returned (hdrV ((11,Hdr.zero)))∧Below w.heap.size w w':=by
 have cD:=fun w=>RDecode_some hux hd w
 have hbx:=Spc.has_iff.1 (Spc.at_has hx)
 have hbl0:=(h.pick a).b0
 have hbl1:=(h.pick a).lim
 have hbl2:=(h.pick a).l0
 have hYY:=lh hy
 clear hy
 clear hux hd
 obtain⟨p,q,hp,cI⟩:=RDecodeID_ne huv hi
 have hwb:=wH_bound hh
 have HW:=lh hw
 clear huv hi hw
 have HP:=lh (h.pick a)
 have HB:=lh (boxR2 w m A1 c1 A2 c2 (.cells #[.int .i64 0,.int .i64 0,.int .i64 0] 58))
 have cP:=Rpart_any (h.below HB.out) a
 obtain⟨s,hs⟩:∃ s,s=m.sp a:=⟨_,rfl⟩
 obtain⟨A,hA⟩:∃ A,A=pkA m a A1 A2:=⟨_,rfl⟩
 obtain⟨c,hc⟩:∃ c,c=pkC m a c1 c2:=⟨_,rfl⟩
 rw[← hs,← hA,← hc] at HP cP
 simp only[← hs] at *
 unfold rmV rsV at *
 clear h hs hA hc
 have hXX:=lh hx
 clear hx
 go_enter Tryz.func20,Tryz.ntmps20
 go_wp2_with fail
 refine cP.mono ?_
 rintro e w1 ⟨rfl,hb⟩
 have HB1:=lh (HB.out.trans (hb.mono HB.out.size))
 have Z1:=lh (box2_b hb)
 have hb2:Below w.heap.size w (w1.alloc (.cells #[.int .i64 s.base,.int .i64 s.limit,.slice A s.ws.length c] 33)):=HB1.out.alloc HB1.out.size _
 have n2:=Bk.new w1 33 #[.int .i64 s.base,.int .i64 s.limit,.slice A s.ws.length c]
 have z2:=Z1.out.alloc (.cells #[.int .i64 s.base,.int .i64 s.limit,.slice A s.ws.length c] 33)
 have hz1:=Z1.out.lt
 clear hb
 go_upto_region 2 with fail
 obtain⟨w2,hw2⟩:∃ w2,w1.alloc (.cells #[.int .i64 s.base,.int .i64 s.limit,.slice A s.ws.length c] 33)=w2:=⟨_,rfl⟩
 rw[hw2] at hb2 n2 z2 ⊢
 have HB2:=lh hb2
 have N2:=lh n2
 have Z2:=lh z2
 have k0:w2.cell? ⟨w1.heap.size,0,none⟩=some (.int .i64 s.base):=n2.cell 0
 have k1:w2.cell? ⟨w1.heap.size,1,none⟩=some (.int .i64 s.limit):=n2.cell 1
 have k2:w2.cell? ⟨w1.heap.size,2,none⟩=some (.slice A s.ws.length c):=n2.cell 2
 have cL:=RSLoad_any (HP.out.below HB2.out) a
 rw[ldV_eq,hXX.out] at cL
 unfold atV rsV at cL
 clear hw2 hb2 n2 z2
 go_wp2_with fail
 refine cL.mono ?_
 rintro e w3 ⟨rfl,hb⟩
 have HB3:=lh (HB2.out.trans (hb.mono HB2.out.size))
 have Z3:=lh (Z2.out.below hb Z2.out.lt)
 have N3:=lh (N2.out.below hb N2.out.lt)
 clear hb k0 k1 k2
 go_wp2_with fail
 refine(cD _).mono ?_
 rintro e w4 ⟨rfl,hb⟩
 have HB4:=lh (HB3.out.trans (hb.mono HB3.out.size))
 have Z4:=lh (Z3.out.below hb Z3.out.lt)
 have N4:=lh (N3.out.below hb N3.out.lt)
 have hb5:Below w.heap.size w (w4.alloc (.cells #[.int .i64 hh.k,.int .i64 hh.c,.int .i64 hh.f] 58)):=HB4.out.alloc HB4.out.size _
 have n5:=N4.out.alloc (.cells #[.int .i64 hh.k,.int .i64 hh.c,.int .i64 hh.f] 58)
 have z5:=Z4.out.alloc (.cells #[.int .i64 hh.k,.int .i64 hh.c,.int .i64 hh.f] 58)
 have q5:=Bk.new w4 58 #[.int .i64 hh.k,.int .i64 hh.c,.int .i64 hh.f]
 clear hb
 go_upto_region 6 with fail
 obtain⟨w5,hw5⟩:∃ w5,w4.alloc (.cells #[.int .i64 hh.k,.int .i64 hh.c,.int .i64 hh.f] 58)=w5:=⟨_,rfl⟩
 rw[hw5] at hb5 n5 z5 q5 ⊢
 have HB5:=lh hb5
 have N5:=lh n5
 have Z5:=lh z5
 have Q5:=lh q5
 have k0:w5.cell? ⟨w1.heap.size,0,none⟩=some (.int .i64 s.base):=n5.cell 0
 have k1:w5.cell? ⟨w1.heap.size,1,none⟩=some (.int .i64 s.limit):=n5.cell 1
 have k2:w5.cell? ⟨w1.heap.size,2,none⟩=some (.slice A s.ws.length c):=n5.cell 2
 have cL2:=RSLoad_any (HP.out.below HB5.out) (a+1)
 rw[ldV_eq,hYY.out] at cL2
 unfold atV rsV at cL2
 clear hw5 hb5 n5 z5 q5
 go_wp2_with fail
 refine cL2.mono ?_
 rintro e w6 ⟨rfl,hb⟩
 have HB6:=lh (HB5.out.trans (hb.mono HB5.out.size))
 have Z6:=lh (Z5.out.below hb Z5.out.lt)
 have N6:=lh (N5.out.below hb N5.out.lt)
 have Q6:=lh (Q5.out.below hb Q5.out.lt)
 have hz6:=Z6.out.lt
 clear hb k0 k1 k2
 have hpo:=hp.out
 have cI2:=fun dd os=>Calls.regrown_of (cI (grow (redrawn w6 dd) os))
 have cW2:=fun dd os=>Calls.regrown_of (RWords_of hh (grow (redrawn w6 dd) os))
 have cC2:=fun dd os=>Calls.regrown_of (RContains_any (HP.out.below (HB6.out.trans ((below_regrown w6 dd os).mono HB6.out.size))) (a+wH hh - 1))
 rw[HW.out] at cC2
 unfold rsV at cC2
 have k0:=fun dd os=>cell_regrown (w:=w6) (a:=⟨w1.heap.size,0,none⟩) (v:=.int .i64 s.base) (N6.out.cell 0) dd os
 have k1:=fun dd os=>cell_regrown (w:=w6) (a:=⟨w1.heap.size,1,none⟩) (v:=.int .i64 s.limit) (N6.out.cell 1) dd os
 have k2:=fun dd os=>cell_regrown (w:=w6) (a:=⟨w1.heap.size,2,none⟩) (v:=.slice A s.ws.length c) (N6.out.cell 2) dd os
 have j0:=fun dd os=>cell_regrown (w:=w6) (a:=⟨w4.heap.size,0,none⟩) (v:=.int .i64 hh.k) (Q6.out.cell 0) dd os
 have j1:=fun dd os=>cell_regrown (w:=w6) (a:=⟨w4.heap.size,1,none⟩) (v:=.int .i64 hh.c) (Q6.out.cell 1) dd os
 have j2:=fun dd os=>cell_regrown (w:=w6) (a:=⟨w4.heap.size,2,none⟩) (v:=.int .i64 hh.f) (Q6.out.cell 2) dd os
 have hq1:IntKind.i64.wrap (a+wH hh)=a+wH hh:=IntWalk.i64_in _ (by omega)
 have hq2:IntKind.i64.wrap (a+wH hh - 1)=a+wH hh - 1:=IntWalk.i64_in _ (by omega)
 have hRG:True:=trivial
 go_wp2_with fail
 refine wp_region_quiet_below (by kernel_rfl) (by kernel_rfl) ?_
 repeat (first | go_big_quiet_step (first | with_reducible exact cI2 _ _ | with_reducible exact cW2 _ _ | with_reducible exact cC2 _ _) | quiet_step (first | with_reducible exact cI2 _ _ | with_reducible exact cW2 _ _ | with_reducible exact cC2 _ _))
 refine wpQuiet_nil ?_
 intro w7 hw'
 have hb7:=quiet_below_one hw'
 have HB7:=lh (HB6.out.trans (hb7.mono HB6.out.size))
 have Z7:=lh (Z6.out.below hb7 Z6.out.lt)
 have Q7:=lh (Q6.out.below hb7 Q6.out.lt)
 clear hw' hb7 hRG cI2 cW2 cC2 k0 k1 k2 j0 j1 j2
 have d0:w7.cell? ⟨w.heap.size+1,0,none⟩=some (.int .i64 0):=Z7.out.cell 0
 have f0:w7.frozen? ⟨w.heap.size+1,0,none⟩=false:=Z7.out.free 0
 have d1:w7.cell? ⟨w.heap.size+1,1,none⟩=some (.int .i64 0):=Z7.out.cell 1
 have f1:w7.frozen? ⟨w.heap.size+1,1,none⟩=false:=Z7.out.free 1
 have d2:w7.cell? ⟨w.heap.size+1,2,none⟩=some (.int .i64 0):=Z7.out.cell 2
 have f2:w7.frozen? ⟨w.heap.size+1,2,none⟩=false:=Z7.out.free 2
 go_wp2_with fail
 exact bodyPost_ret (v:=.tuple #[.agg #[.int .i64 0,.int .i64 0,.int .i64 0],.int .i64 11]) (by simp[results,Tryz.results20,go_sem,d0,d1,d2]) rfl ⟨rfl,below_set3 HB7.out (by omega) _ _ _⟩
set_option maxHeartbeats 4000000 in
theorem RHdr_ok (h:RM w m A1 c1 A2 c2) (a:Int) {x:Int} (hx:(m.sp a).at_ a=some x) (hux:U64 x) {hh:Hdr} (hd:dH x=some hh) {v:Int} (hy:(m.sp a).at_ (a+1)=some v) (huv:U64 v) (hi:dI v≠Id.zero) (hw:(m.sp a).has (a+wH hh - 1)=true):Calls Tryz.prog 20 #[rmV m A1 c1 A2 c2,.int .i64 a] w fun e w'=>e=.returned (hdrV ((0,hh)))∧Below w.heap.size w w':=by
 have cD:=fun w=>RDecode_some hux hd w
 have hbx:=Spc.has_iff.1 (Spc.at_has hx)
 have hbl0:=(h.pick a).b0
 have hbl1:=(h.pick a).lim
 have hbl2:=(h.pick a).l0
 have hYY:=lh hy
 clear hy
 clear hux hd
 obtain⟨p,q,hp,cI⟩:=RDecodeID_ne huv hi
 have hwb:=wH_bound hh
 have HW:=lh hw
 clear huv hi hw
 have HP:=lh (h.pick a)
 have HB:=lh (boxR2 w m A1 c1 A2 c2 (.cells #[.int .i64 0,.int .i64 0,.int .i64 0] 58))
 have cP:=Rpart_any (h.below HB.out) a
 obtain⟨s,hs⟩:∃ s,s=m.sp a:=⟨_,rfl⟩
 obtain⟨A,hA⟩:∃ A,A=pkA m a A1 A2:=⟨_,rfl⟩
 obtain⟨c,hc⟩:∃ c,c=pkC m a c1 c2:=⟨_,rfl⟩
 rw[← hs,← hA,← hc] at HP cP
 simp only[← hs] at *
 unfold rmV rsV at *
 clear h hs hA hc
 have hXX:=lh hx
 clear hx
 go_enter Tryz.func20,Tryz.ntmps20
 go_wp2_with fail
 refine cP.mono ?_
 rintro e w1 ⟨rfl,hb⟩
 have HB1:=lh (HB.out.trans (hb.mono HB.out.size))
 have Z1:=lh (box2_b hb)
 have hb2:Below w.heap.size w (w1.alloc (.cells #[.int .i64 s.base,.int .i64 s.limit,.slice A s.ws.length c] 33)):=HB1.out.alloc HB1.out.size _
 have n2:=Bk.new w1 33 #[.int .i64 s.base,.int .i64 s.limit,.slice A s.ws.length c]
 have z2:=Z1.out.alloc (.cells #[.int .i64 s.base,.int .i64 s.limit,.slice A s.ws.length c] 33)
 have hz1:=Z1.out.lt
 clear hb
 go_upto_region 2 with fail
 obtain⟨w2,hw2⟩:∃ w2,w1.alloc (.cells #[.int .i64 s.base,.int .i64 s.limit,.slice A s.ws.length c] 33)=w2:=⟨_,rfl⟩
 rw[hw2] at hb2 n2 z2 ⊢
 have HB2:=lh hb2
 have N2:=lh n2
 have Z2:=lh z2
 have k0:w2.cell? ⟨w1.heap.size,0,none⟩=some (.int .i64 s.base):=n2.cell 0
 have k1:w2.cell? ⟨w1.heap.size,1,none⟩=some (.int .i64 s.limit):=n2.cell 1
 have k2:w2.cell? ⟨w1.heap.size,2,none⟩=some (.slice A s.ws.length c):=n2.cell 2
 have cL:=RSLoad_any (HP.out.below HB2.out) a
 rw[ldV_eq,hXX.out] at cL
 unfold atV rsV at cL
 clear hw2 hb2 n2 z2
 go_wp2_with fail
 refine cL.mono ?_
 rintro e w3 ⟨rfl,hb⟩
 have HB3:=lh (HB2.out.trans (hb.mono HB2.out.size))
 have Z3:=lh (Z2.out.below hb Z2.out.lt)
 have N3:=lh (N2.out.below hb N2.out.lt)
 clear hb k0 k1 k2
 go_wp2_with fail
 refine(cD _).mono ?_
 rintro e w4 ⟨rfl,hb⟩
 have HB4:=lh (HB3.out.trans (hb.mono HB3.out.size))
 have Z4:=lh (Z3.out.below hb Z3.out.lt)
 have N4:=lh (N3.out.below hb N3.out.lt)
 have hb5:Below w.heap.size w (w4.alloc (.cells #[.int .i64 hh.k,.int .i64 hh.c,.int .i64 hh.f] 58)):=HB4.out.alloc HB4.out.size _
 have n5:=N4.out.alloc (.cells #[.int .i64 hh.k,.int .i64 hh.c,.int .i64 hh.f] 58)
 have z5:=Z4.out.alloc (.cells #[.int .i64 hh.k,.int .i64 hh.c,.int .i64 hh.f] 58)
 have q5:=Bk.new w4 58 #[.int .i64 hh.k,.int .i64 hh.c,.int .i64 hh.f]
 clear hb
 go_upto_region 6 with fail
 obtain⟨w5,hw5⟩:∃ w5,w4.alloc (.cells #[.int .i64 hh.k,.int .i64 hh.c,.int .i64 hh.f] 58)=w5:=⟨_,rfl⟩
 rw[hw5] at hb5 n5 z5 q5 ⊢
 have HB5:=lh hb5
 have N5:=lh n5
 have Z5:=lh z5
 have Q5:=lh q5
 have k0:w5.cell? ⟨w1.heap.size,0,none⟩=some (.int .i64 s.base):=n5.cell 0
 have k1:w5.cell? ⟨w1.heap.size,1,none⟩=some (.int .i64 s.limit):=n5.cell 1
 have k2:w5.cell? ⟨w1.heap.size,2,none⟩=some (.slice A s.ws.length c):=n5.cell 2
 have cL2:=RSLoad_any (HP.out.below HB5.out) (a+1)
 rw[ldV_eq,hYY.out] at cL2
 unfold atV rsV at cL2
 clear hw5 hb5 n5 z5 q5
 go_wp2_with fail
 refine cL2.mono ?_
 rintro e w6 ⟨rfl,hb⟩
 have HB6:=lh (HB5.out.trans (hb.mono HB5.out.size))
 have Z6:=lh (Z5.out.below hb Z5.out.lt)
 have N6:=lh (N5.out.below hb N5.out.lt)
 have Q6:=lh (Q5.out.below hb Q5.out.lt)
 have hz6:=Z6.out.lt
 clear hb k0 k1 k2
 have hpo:=hp.out
 have cI2:=fun dd os=>Calls.regrown_of (cI (grow (redrawn w6 dd) os))
 have cW2:=fun dd os=>Calls.regrown_of (RWords_of hh (grow (redrawn w6 dd) os))
 have cC2:=fun dd os=>Calls.regrown_of (RContains_any (HP.out.below (HB6.out.trans ((below_regrown w6 dd os).mono HB6.out.size))) (a+wH hh - 1))
 rw[HW.out] at cC2
 unfold rsV at cC2
 have k0:=fun dd os=>cell_regrown (w:=w6) (a:=⟨w1.heap.size,0,none⟩) (v:=.int .i64 s.base) (N6.out.cell 0) dd os
 have k1:=fun dd os=>cell_regrown (w:=w6) (a:=⟨w1.heap.size,1,none⟩) (v:=.int .i64 s.limit) (N6.out.cell 1) dd os
 have k2:=fun dd os=>cell_regrown (w:=w6) (a:=⟨w1.heap.size,2,none⟩) (v:=.slice A s.ws.length c) (N6.out.cell 2) dd os
 have j0:=fun dd os=>cell_regrown (w:=w6) (a:=⟨w4.heap.size,0,none⟩) (v:=.int .i64 hh.k) (Q6.out.cell 0) dd os
 have j1:=fun dd os=>cell_regrown (w:=w6) (a:=⟨w4.heap.size,1,none⟩) (v:=.int .i64 hh.c) (Q6.out.cell 1) dd os
 have j2:=fun dd os=>cell_regrown (w:=w6) (a:=⟨w4.heap.size,2,none⟩) (v:=.int .i64 hh.f) (Q6.out.cell 2) dd os
 have hq1:IntKind.i64.wrap (a+wH hh)=a+wH hh:=IntWalk.i64_in _ (by omega)
 have hq2:IntKind.i64.wrap (a+wH hh - 1)=a+wH hh - 1:=IntWalk.i64_in _ (by omega)
 have hRG:True:=trivial
 go_wp2_with fail
 refine wp_region_quiet_below (by kernel_rfl) (by kernel_rfl) ?_
 repeat (first | go_big_quiet_step (first | with_reducible exact cI2 _ _ | with_reducible exact cW2 _ _ | with_reducible exact cC2 _ _) | quiet_step (first | with_reducible exact cI2 _ _ | with_reducible exact cW2 _ _ | with_reducible exact cC2 _ _))
 refine wpQuiet_nil ?_
 intro w7 hw'
 have hb7:=quiet_below_one hw'
 have HB7:=lh (HB6.out.trans (hb7.mono HB6.out.size))
 have Z7:=lh (Z6.out.below hb7 Z6.out.lt)
 have Q7:=lh (Q6.out.below hb7 Q6.out.lt)
 clear hw' hb7 hRG cI2 cW2 cC2 k0 k1 k2 j0 j1 j2
 have k0:w7.cell? ⟨w4.heap.size,0,none⟩=some (.int .i64 hh.k):=Q7.out.cell 0
 have k1:w7.cell? ⟨w4.heap.size,1,none⟩=some (.int .i64 hh.c):=Q7.out.cell 1
 have k2:w7.cell? ⟨w4.heap.size,2,none⟩=some (.int .i64 hh.f):=Q7.out.cell 2
 have d0:w7.cell? ⟨w.heap.size+1,0,none⟩=some (.int .i64 0):=Z7.out.cell 0
 have f0:w7.frozen? ⟨w.heap.size+1,0,none⟩=false:=Z7.out.free 0
 have d1:w7.cell? ⟨w.heap.size+1,1,none⟩=some (.int .i64 0):=Z7.out.cell 1
 have f1:w7.frozen? ⟨w.heap.size+1,1,none⟩=false:=Z7.out.free 1
 have d2:w7.cell? ⟨w.heap.size+1,2,none⟩=some (.int .i64 0):=Z7.out.cell 2
 have f2:w7.frozen? ⟨w.heap.size+1,2,none⟩=false:=Z7.out.free 2
 go_wp2_with fail
 exact bodyPost_ret (v:=.tuple #[.agg #[.int .i64 hh.k,.int .i64 hh.c,.int .i64 hh.f],.int .i64 0]) (by simp[results,Tryz.results20,go_sem,d0,d1,d2]) rfl ⟨rfl,below_set3 HB7.out (by omega) _ _ _⟩
theorem RHeader_any (h:RM w m A1 c1 A2 c2) (a:Int):Calls Tryz.prog 20 #[rmV m A1 c1 A2 c2,.int .i64 a] w fun e w'=>e=.returned (hdrV (m.hdr a))∧Below w.heap.size w w':=by
 have ho:=(h.pick a).ok
 unfold Mm.hdr Spc.hdr
 cases hx:(m.sp a).at_ a with
 | none=>exact RHdr_none h a hx
 | some x =>
  have hux:=ho.at_u hx
  cases hd:dH x with
  | none =>
   cases hy:(m.sp a).at_ (a+1) with
   | none=>simp only[hd];exact RHdr_y1 h a hx hux hd hy
   | some v=>simp only[hd];exact RHdr_d0 h a hx hux hd hy
  | some hh =>
   cases hy:(m.sp a).at_ (a+1) with
   | none=>simp only[hd];exact RHdr_y0 h a hx hux hd hy
   | some v =>
    simp only[hd]
    have huv:=ho.at_u hy
    by_cases hi:dI v=Id.zero
    ·rw[if_pos (.inl hi)];exact RHdr_id h a hx hux hd hy huv hi
    ·cases hw:(m.sp a).has (a+wH hh - 1) with
     | false=>rw[if_pos (.inr rfl)];exact RHdr_far h a hx hux hd hy huv hi hw
     | true=>rw[if_neg (by simp[hi])];exact RHdr_ok h a hx hux hd hy huv hi hw
end
end
section
open Go.RowKit Go.Sort
section
variable {w w':World} {m:Mm} {A1 A2:Option Addr} {c1 c2:Nat}
theorem RHeader_no (h:RM w m A1 c1 A2 c2) (a:Int) (he:(m.hdr a).1≠0):Calls Tryz.prog 20 #[rmV m A1 c1 A2 c2,.int .i64 a] w fun e w'=>e=.returned (.tuple #[.agg #[.int .i64 0,.int .i64 0,.int .i64 0],.int .i64 (m.hdr a).1])∧Below w.heap.size w w':=by
 have:=RHeader_any h a
 unfold hdrV at this
 rw[Mm.hdr_zero he] at this
 exact this
theorem RHeader_yes (h:RM w m A1 c1 A2 c2) (a:Int) (he:(m.hdr a).1=0):Calls Tryz.prog 20 #[rmV m A1 c1 A2 c2,.int .i64 a] w fun e w'=>e=.returned (.tuple #[.agg #[.int .i64 (m.hdr a).2.k,.int .i64 (m.hdr a).2.c,.int .i64 (m.hdr a).2.f],.int .i64 0])∧Below w.heap.size w w':=by
 have:=RHeader_any h a
 unfold hdrV at this
 rw[he] at this
 exact this
theorem int_dec (k j:Int):k=j ∨ k≠j:=by omega
set_option maxHeartbeats 1000000 in
theorem Rfield_no (h:RM w m A1 c1 A2 c2) (a i:Int) (he:(m.hdr a).1≠0):Calls Tryz.prog 116 #[rmV m A1 c1 A2 c2,.int .i64 a,.int .i64 i] w fun e w'=>e=.returned (.int .i64 (m.fldE a i))∧Below w.heap.size w w':=by
 have HB:=lh (boxR w m A1 c1 A2 c2)
 have hk:=lh (show m.fldE a i=(m.hdr a).1 by unfold Mm.fldE;rw[if_pos he])
 have cH:=RHeader_no (h.below HB.out) a he
 obtain⟨er,her⟩:∃ er,er=(m.hdr a).1:=⟨_,rfl⟩
 rw[← her] at cH hk he
 have e1:(er == 0)=false:=by simp[he]
 have e2:(er != 0)=true:=by simp[he]
 unfold rmV at *
 clear h her he
 go_enter Tryz.func116,Tryz.ntmps116
 go_wp2_with fail
 refine cH.mono ?_
 rintro e w1 ⟨rfl,hb⟩
 have HB1:=lh (HB.out.trans (hb.mono HB.out.size))
 clear hb
 go_wp2_with fail
 go_ret
 exact⟨by rw[hk.out];rfl,HB1.out.alloc HB1.out.size _⟩
set_option maxHeartbeats 1000000 in
theorem Rfield_yes (h:RM w m A1 c1 A2 c2) (a i:Int) (he:(m.hdr a).1=0):Calls Tryz.prog 116 #[rmV m A1 c1 A2 c2,.int .i64 a,.int .i64 i] w fun e w'=>e=.returned (.int .i64 (m.fldE a i))∧Below w.heap.size w w':=by
 have HB:=lh (boxR w m A1 c1 A2 c2)
 have hk:=lh (show m.fldE a i=if (m.hdr a).2.k=3 ∨ (m.hdr a).2.k=4 then 7 else if i < 0 ∨ (m.hdr a).2.f≤i then 2 else 0 by unfold Mm.fldE;rw[if_neg (by simp[he])])
 have cH:=RHeader_yes (h.below HB.out) a he
 obtain⟨⟨er,k,c,f⟩,her⟩:∃ er,er=m.hdr a:=⟨_,rfl⟩
 rw[← her] at cH hk
 simp only at hk
 unfold rmV at *
 clear h her he
 go_enter Tryz.func116,Tryz.ntmps116
 go_wp2_with fail
 refine cH.mono ?_
 rintro e w1 ⟨rfl,hb⟩
 have HB1:=lh (HB.out.trans (hb.mono HB.out.size))
 clear hb
 have hb5:Below w.heap.size w (w1.alloc (.cells #[.int .i64 k,.int .i64 c,.int .i64 f] 58)):=HB1.out.alloc HB1.out.size _
 have HB5:=lh hb5
 clear hb5
 rcases int_dec k 3 with h3 | h3
 ·have HP:=lh (show k=3 ∨ k=4 from .inl h3)
  have h3':(k == 3)=true:=by simp[h3]
  clear h3
  go_wp2_with fail
  go_ret
  exact⟨by rw[hk.out,if_pos HP.out];rfl,HB5.out⟩
 ·rcases int_dec k 4 with h4 | h4
  ·have HP:=lh (show k=3 ∨ k=4 from .inr h4)
   have h3':(k == 3)=false:=by simp[h3]
   have h4':(k == 4)=true:=by simp[h4]
   clear h3 h4
   go_wp2_with fail
   go_ret
   exact⟨by rw[hk.out,if_pos HP.out];rfl,HB5.out⟩
  ·have HN:=lh (show ¬ (k=3 ∨ k=4) by omega)
   have h3':(k == 3)=false:=by simp[h3]
   have h4':(k == 4)=false:=by simp[h4]
   clear h3 h4
   by_cases h0:i < 0
   ·go_wp2_with fail
    go_ret
    exact⟨by rw[hk.out,if_neg HN.out,if_pos (.inl h0)];rfl,HB5.out⟩
   ·by_cases h1:f≤i
    ·go_wp2_with fail
     go_ret
     exact⟨by rw[hk.out,if_neg HN.out,if_pos (.inr h1)];rfl,HB5.out⟩
    ·have h0':0≤i:=by omega
     have h1':i < f:=by omega
     have HN2:=lh (show ¬(i < 0 ∨ f≤i) by omega)
     clear h0 h1
     go_wp2_with fail
     go_ret
     exact⟨by rw[hk.out,if_neg HN.out,if_neg HN2.out];rfl,HB5.out⟩
theorem Rfield_any (h:RM w m A1 c1 A2 c2) (a i:Int):Calls Tryz.prog 116 #[rmV m A1 c1 A2 c2,.int .i64 a,.int .i64 i] w fun e w'=>e=.returned (.int .i64 (m.fldE a i))∧Below w.heap.size w w':=by
 by_cases he:(m.hdr a).1=0
 ·exact Rfield_yes h a i he
 ·exact Rfield_no h a i he
theorem Mm.fldE_bound {m:Mm} (ho:m.old.Ok) (hy:m.yng.Ok) {a i:Int} (he:m.fldE a i=0):0≤a∧a < 4294967296∧0≤i∧i≤30:=by
 obtain⟨h1,h2,h3,h4⟩:=Mm.fldE_ok he
 have hv:=vH_bound (Mm.hdr_valid h1)
 have:=Mm.hdr_has h1
 unfold Mm.has Mm.sp at this
 have o1:=ho.lim;have o2:=ho.l0;have o3:=ho.b0
 have y1:=hy.lim;have y2:=hy.l0;have y3:=hy.b0
 split at this
 ·have:=Spc.has_iff.1 this;omega
 ·have:=Spc.has_iff.1 this;omega
set_option maxHeartbeats 4000000 in
theorem RSetField_any (h:RM w m A1 c1 A2 c2) (a i:Int) {x:Int} (hx:U64 x):Calls Tryz.prog 86 #[rmV m A1 c1 A2 c2,.int .i64 a,.int .i64 i,.int .u64 x] w (RMStP w A1 A2 (m.setF a i x).2 (m.setF a i x).1):=by
 have HB:=lh (boxR2 w m A1 c1 A2 c2 (.cells #[.int .i64 0,.int .i64 0,.slice none 0 0,.int .i64 0,.int .i64 0,.slice none 0 0] 35))
 have cF:=Rfield_any (h.below HB.out) a i
 have H:=lh h
 have HX:=lh hx
 by_cases he:m.fldE a i=0
 ·have hk:=lh (show m.setF a i x=m.store (a+2+i) x by unfold Mm.setF;rw[if_neg (by simp[he])])
  obtain⟨ab0,ab1,ib0,ib1⟩:=Mm.fldE_bound h.o.ok h.y.ok he
  rw[he] at cF
  unfold rmV at *
  clear h he hx
  go_enter Tryz.func86,Tryz.ntmps86
  go_wp2_with fail
  refine cF.mono ?_
  rintro e w1 ⟨rfl,hb⟩
  have HB1:=lh (HB.out.trans (hb.mono HB.out.size))
  have q1:=box2_a hb
  have Z1:=lh (box2_b hb)
  have k0:w1.cell? ⟨w.heap.size,0,none⟩=some (.int .i64 m.old.base):=q1.cell 0
  have k1:w1.cell? ⟨w.heap.size,1,none⟩=some (.int .i64 m.old.limit):=q1.cell 1
  have k2:w1.cell? ⟨w.heap.size,2,none⟩=some (.slice A1 m.old.ws.length c1):=q1.cell 2
  have k3:w1.cell? ⟨w.heap.size,3,none⟩=some (.int .i64 m.yng.base):=q1.cell 3
  have k4:w1.cell? ⟨w.heap.size,4,none⟩=some (.int .i64 m.yng.limit):=q1.cell 4
  have k5:w1.cell? ⟨w.heap.size,5,none⟩=some (.slice A2 m.yng.ws.length c2):=q1.cell 5
  have cS:=RStore_any (H.out.below HB1.out) (a+2+i) HX.out
  unfold rmV at cS
  clear hb q1
  go_wp2_with fail
  refine cS.mono ?_
  rintro e w2 ⟨A1',c1',A2',c2',rfl,hm2,hb2,hn1,hn2⟩
  have HNW:=lh (And.intro (hn1.mono HB1.out.size) (hn2.mono HB1.out.size))
  clear hn1 hn2
  have HB2:=lh (HB1.out.trans (hb2.mono HB1.out.size))
  have z2:=Z1.out.below hb2 Z1.out.lt
  have HM2:=lh hm2
  have HAO:=lh (hm2.o.away z2 rfl)
  have HAY:=lh (hm2.y.away z2 rfl)
  obtain⟨m',hm'⟩:∃ m',m'=(m.store (a+2+i) x).2:=⟨_,rfl⟩
  obtain⟨r,hr⟩:∃ r,r=(m.store (a+2+i) x).1:=⟨_,rfl⟩
  rw[← hm'] at HM2 HAO HAY hm2 ⊢
  rw[← hr]
  unfold rmV
  have HMR:=lh (And.intro hm' hr)
  clear hm2 hb2 hm' hr
  have d0:w2.cell? ⟨w.heap.size+1,0,none⟩=some (.int .i64 0):=z2.cell 0
  have df0:w2.frozen? ⟨w.heap.size+1,0,none⟩=false:=z2.free 0
  have d1:w2.cell? ⟨w.heap.size+1,1,none⟩=some (.int .i64 0):=z2.cell 1
  have df1:w2.frozen? ⟨w.heap.size+1,1,none⟩=false:=z2.free 1
  have d2:w2.cell? ⟨w.heap.size+1,2,none⟩=some (.slice none 0 0):=z2.cell 2
  have df2:w2.frozen? ⟨w.heap.size+1,2,none⟩=false:=z2.free 2
  have d3:w2.cell? ⟨w.heap.size+1,3,none⟩=some (.int .i64 0):=z2.cell 3
  have df3:w2.frozen? ⟨w.heap.size+1,3,none⟩=false:=z2.free 3
  have d4:w2.cell? ⟨w.heap.size+1,4,none⟩=some (.int .i64 0):=z2.cell 4
  have df4:w2.frozen? ⟨w.heap.size+1,4,none⟩=false:=z2.free 4
  have d5:w2.cell? ⟨w.heap.size+1,5,none⟩=some (.slice none 0 0):=z2.cell 5
  have df5:w2.frozen? ⟨w.heap.size+1,5,none⟩=false:=z2.free 5
  clear z2
  go_wp2_with fail
  have hbb:=((((((HB2.out.setCell (p:=⟨w.heap.size+1,0,none⟩) (by simp) (.int .i64 m'.old.base)).setCell (p:=⟨w.heap.size+1,1,none⟩) (by simp) (.int .i64 m'.old.limit)).setCell (p:=⟨w.heap.size+1,2,none⟩) (by simp) (.slice A1' m'.old.ws.length c1')).setCell (p:=⟨w.heap.size+1,3,none⟩) (by simp) (.int .i64 m'.yng.base)).setCell (p:=⟨w.heap.size+1,4,none⟩) (by simp) (.int .i64 m'.yng.limit)).setCell (p:=⟨w.heap.size+1,5,none⟩) (by simp) (.slice A2' m'.yng.ws.length c2'))
  refine bodyPost_ret (v:=.tuple #[.agg #[.int .i64 m'.old.base,.int .i64 m'.old.limit,.slice A1' m'.old.ws.length c1',.int .i64 m'.yng.base,.int .i64 m'.yng.limit,.slice A2' m'.yng.ws.length c2'],.int .i64 r]) (by simp[results,Tryz.results86,go_sem,d0,d1,d2,d3,d4,d5]) rfl ?_
  rw[hk.out,← HMR.out.1,← HMR.out.2]
  exact⟨A1',c1',A2',c2',rfl,⟨((((((HM2.out.o.setCell (p:=⟨w.heap.size+1,0,none⟩) HAO.out (.int .i64 m'.old.base)).setCell (p:=⟨w.heap.size+1,1,none⟩) HAO.out (.int .i64 m'.old.limit)).setCell (p:=⟨w.heap.size+1,2,none⟩) HAO.out (.slice A1' m'.old.ws.length c1')).setCell (p:=⟨w.heap.size+1,3,none⟩) HAO.out (.int .i64 m'.yng.base)).setCell (p:=⟨w.heap.size+1,4,none⟩) HAO.out (.int .i64 m'.yng.limit)).setCell (p:=⟨w.heap.size+1,5,none⟩) HAO.out (.slice A2' m'.yng.ws.length c2')),((((((HM2.out.y.setCell (p:=⟨w.heap.size+1,0,none⟩) HAY.out (.int .i64 m'.old.base)).setCell (p:=⟨w.heap.size+1,1,none⟩) HAY.out (.int .i64 m'.old.limit)).setCell (p:=⟨w.heap.size+1,2,none⟩) HAY.out (.slice A1' m'.old.ws.length c1')).setCell (p:=⟨w.heap.size+1,3,none⟩) HAY.out (.int .i64 m'.yng.base)).setCell (p:=⟨w.heap.size+1,4,none⟩) HAY.out (.int .i64 m'.yng.limit)).setCell (p:=⟨w.heap.size+1,5,none⟩) HAY.out (.slice A2' m'.yng.ws.length c2'))⟩,hbb,HNW.out.1,HNW.out.2⟩
 ·have hk:=lh (show m.setF a i x=(m.fldE a i,m) by unfold Mm.setF;rw[if_pos he])
  obtain⟨er,her⟩:∃ er,er=m.fldE a i:=⟨_,rfl⟩
  rw[← her] at cF hk he
  have e1:(er == 0)=false:=by simp[he]
  have e2:(er != 0)=true:=by simp[he]
  unfold rmV at *
  clear h her he hx
  go_enter Tryz.func86,Tryz.ntmps86
  go_wp2_with fail
  refine cF.mono ?_
  rintro e w1 ⟨rfl,hb⟩
  have HB1:=lh (HB.out.trans (hb.mono HB.out.size))
  have q1:=box2_a hb
  have z1:=box2_b hb
  have k0:w1.cell? ⟨w.heap.size,0,none⟩=some (.int .i64 m.old.base):=q1.cell 0
  have k1:w1.cell? ⟨w.heap.size,1,none⟩=some (.int .i64 m.old.limit):=q1.cell 1
  have k2:w1.cell? ⟨w.heap.size,2,none⟩=some (.slice A1 m.old.ws.length c1):=q1.cell 2
  have k3:w1.cell? ⟨w.heap.size,3,none⟩=some (.int .i64 m.yng.base):=q1.cell 3
  have k4:w1.cell? ⟨w.heap.size,4,none⟩=some (.int .i64 m.yng.limit):=q1.cell 4
  have k5:w1.cell? ⟨w.heap.size,5,none⟩=some (.slice A2 m.yng.ws.length c2):=q1.cell 5
  have d0:w1.cell? ⟨w.heap.size+1,0,none⟩=some (.int .i64 0):=z1.cell 0
  have df0:w1.frozen? ⟨w.heap.size+1,0,none⟩=false:=z1.free 0
  have d1:w1.cell? ⟨w.heap.size+1,1,none⟩=some (.int .i64 0):=z1.cell 1
  have df1:w1.frozen? ⟨w.heap.size+1,1,none⟩=false:=z1.free 1
  have d2:w1.cell? ⟨w.heap.size+1,2,none⟩=some (.slice none 0 0):=z1.cell 2
  have df2:w1.frozen? ⟨w.heap.size+1,2,none⟩=false:=z1.free 2
  have d3:w1.cell? ⟨w.heap.size+1,3,none⟩=some (.int .i64 0):=z1.cell 3
  have df3:w1.frozen? ⟨w.heap.size+1,3,none⟩=false:=z1.free 3
  have d4:w1.cell? ⟨w.heap.size+1,4,none⟩=some (.int .i64 0):=z1.cell 4
  have df4:w1.frozen? ⟨w.heap.size+1,4,none⟩=false:=z1.free 4
  have d5:w1.cell? ⟨w.heap.size+1,5,none⟩=some (.slice none 0 0):=z1.cell 5
  have df5:w1.frozen? ⟨w.heap.size+1,5,none⟩=false:=z1.free 5
  clear hb q1 z1
  go_wp2_with fail
  have hbb:=((((((HB1.out.setCell (p:=⟨w.heap.size+1,0,none⟩) (by simp) (.int .i64 m.old.base)).setCell (p:=⟨w.heap.size+1,1,none⟩) (by simp) (.int .i64 m.old.limit)).setCell (p:=⟨w.heap.size+1,2,none⟩) (by simp) (.slice A1 m.old.ws.length c1)).setCell (p:=⟨w.heap.size+1,3,none⟩) (by simp) (.int .i64 m.yng.base)).setCell (p:=⟨w.heap.size+1,4,none⟩) (by simp) (.int .i64 m.yng.limit)).setCell (p:=⟨w.heap.size+1,5,none⟩) (by simp) (.slice A2 m.yng.ws.length c2))
  refine bodyPost_ret (v:=.tuple #[.agg #[.int .i64 m.old.base,.int .i64 m.old.limit,.slice A1 m.old.ws.length c1,.int .i64 m.yng.base,.int .i64 m.yng.limit,.slice A2 m.yng.ws.length c2],.int .i64 er]) (by simp[results,Tryz.results86,go_sem,d0,d1,d2,d3,d4,d5]) rfl ?_
  rw[hk.out]
  exact⟨A1,c1,A2,c2,rfl,H.out.below hbb,hbb,Nw.refl _ _,Nw.refl _ _⟩
end
end
end Go.Proofs.YtaijmgkjbbiboaaGreat
