/- Parts of the proof: RMAlloc. -/
import Derived.Test.YtaijmgkjbbiboaaGreatPcA
import Derived.Test.YtaijmgkjbbiboaaGreatPc10
set_option linter.unusedVariables false
set_option linter.unusedSimpArgs false
set_option linter.unusedSectionVars false
set_option maxRecDepth 100000
namespace Go.Proofs.YtaijmgkjbbiboaaGreat
section
open Go.RowKit Go.Sort
def RMAlP (w:World) (B1 B2:Option Addr) (r:Int × Mm × Int) (e:Ending) (w':World):Prop:=∃ A1 c1 A2 c2,e=.returned (.tuple #[rmV r.2.1 A1 c1 A2 c2,.int .i64 r.2.2,.int .i64 r.1])∧RM w' r.2.1 A1 c1 A2 c2∧Below w.heap.size w w'∧Nw w.heap.size B1 A1∧Nw w.heap.size B2 A2
theorem Spc.alloc_bl (s:Spc) (h:Hdr) (i:Id):(s.alloc h i).2.1.base=s.base∧(s.alloc h i).2.1.limit=s.limit:=by
 unfold Spc.alloc
 split
 ·exact⟨rfl,rfl⟩
 ·split
  ·exact⟨rfl,rfl⟩
  ·exact⟨rfl,rfl⟩
section
variable {w:World} {m:Mm} {A1 A2:Option Addr} {c1 c2:Nat}
set_option maxHeartbeats 4000000 in
theorem RMAlloc_y (h:RM w m A1 c1 A2 c2) (hd:Hdr) (i:Id):Calls Tryz.prog 84 #[rmV m A1 c1 A2 c2,.bool true,hd.val,i.val] w (RMAlP w A1 A2 (m.alloc true hd i)):=by
 have HB0:Hid (Below w.heap.size w ((((w.alloc (.cells #[.int .i64 m.old.base,.int .i64 m.old.limit,.slice A1 m.old.ws.length c1,.int .i64 m.yng.base,.int .i64 m.yng.limit,.slice A2 m.yng.ws.length c2] 35)).alloc (.cells #[.int .i64 hd.k,.int .i64 hd.c,.int .i64 hd.f] 58)).alloc (.cells #[.int .i64 i.m,.int .i64 i.s] 65)).alloc (.cells #[.int .i64 0,.int .i64 0,.slice none 0 0,.int .i64 0,.int .i64 0,.slice none 0 0] 35))):=lh (((((Below.refl _ _).alloc (Nat.le_refl _) _).alloc (by simp) _).alloc (by simp;omega) _).alloc (by simp;omega) _)
 have B00:Hid (Bk ((((w.alloc (.cells #[.int .i64 m.old.base,.int .i64 m.old.limit,.slice A1 m.old.ws.length c1,.int .i64 m.yng.base,.int .i64 m.yng.limit,.slice A2 m.yng.ws.length c2] 35)).alloc (.cells #[.int .i64 hd.k,.int .i64 hd.c,.int .i64 hd.f] 58)).alloc (.cells #[.int .i64 i.m,.int .i64 i.s] 65)).alloc (.cells #[.int .i64 0,.int .i64 0,.slice none 0 0,.int .i64 0,.int .i64 0,.slice none 0 0] 35)) (w.heap.size) 35 #[.int .i64 m.old.base,.int .i64 m.old.limit,.slice A1 m.old.ws.length c1,.int .i64 m.yng.base,.int .i64 m.yng.limit,.slice A2 m.yng.ws.length c2]):=lh (((Bk.new _ _ _).alloc _).alloc _ |>.alloc _)
 have B30:Hid (Bk ((((w.alloc (.cells #[.int .i64 m.old.base,.int .i64 m.old.limit,.slice A1 m.old.ws.length c1,.int .i64 m.yng.base,.int .i64 m.yng.limit,.slice A2 m.yng.ws.length c2] 35)).alloc (.cells #[.int .i64 hd.k,.int .i64 hd.c,.int .i64 hd.f] 58)).alloc (.cells #[.int .i64 i.m,.int .i64 i.s] 65)).alloc (.cells #[.int .i64 0,.int .i64 0,.slice none 0 0,.int .i64 0,.int .i64 0,.slice none 0 0] 35)) (w.heap.size+1+1+1) 35 #[.int .i64 0,.int .i64 0,.slice none 0 0,.int .i64 0,.int .i64 0,.slice none 0 0]):=lh (Bk.here _ _ _ (by simp))
 have hoB:=(h.below HB0.out).o
 have cA:=RAlloc_any (h.below HB0.out).y hd i
 have H:=lh h
 obtain⟨hbs,hlm⟩:=Spc.alloc_bl m.yng hd i
 obtain⟨r,hr⟩:∃ r,r=m.yng.alloc hd i:=⟨_,rfl⟩
 have HR:Hid (m.alloc true hd i=(r.1,{ m with yng:=r.2.1 },r.2.2)):=lh (by rw[hr];rfl)
 rw[← hr] at cA hbs hlm
 have hbs:=lh hbs
 have hlm:=lh hlm
 unfold rmV Hdr.val Id.val rsV at *
 clear h hr hoB
 go_enter Tryz.func84,Tryz.ntmps84
 go_wp2_with fail
 refine cA.mono ?_
 rintro e w1 ⟨A',c',rfl,hs1,hb,hnw⟩
 have HNW:=lh (hnw.mono HB0.out.size)
 clear hnw
 have HB1:=lh (HB0.out.trans (hb.mono HB0.out.size))
 have HS1:=lh hs1
 have Q1:=lh (B00.out.below hb B00.out.lt)
 have Z1:=lh (B30.out.below hb B30.out.lt)
 have hz1:=Z1.out.lt
 unfold rsV
 rw[hbs.out,hlm.out]
 clear hs1 hb
 go_upto_region 3 with fail
 have hB3:=HB1.out.alloc HB1.out.size (.cells #[.int .i64 m.yng.base,.int .i64 m.yng.limit,.slice A' r.2.1.ws.length c'] 33)
 have q3:=Q1.out.alloc (.cells #[.int .i64 m.yng.base,.int .i64 m.yng.limit,.slice A' r.2.1.ws.length c'] 33)
 have z3:=Z1.out.alloc (.cells #[.int .i64 m.yng.base,.int .i64 m.yng.limit,.slice A' r.2.1.ws.length c'] 33)
 have n3:=Bk.new w1 33 #[.int .i64 m.yng.base,.int .i64 m.yng.limit,.slice A' r.2.1.ws.length c']
 have hs3:RS (w1.alloc (.cells #[.int .i64 m.yng.base,.int .i64 m.yng.limit,.slice A' r.2.1.ws.length c'] 33)) r.2.1 A' c':=HS1.out.below ((Below.refl _ _).alloc (Nat.le_refl _) _)
 obtain⟨w3,hw3⟩:∃ w3,w1.alloc (.cells #[.int .i64 m.yng.base,.int .i64 m.yng.limit,.slice A' r.2.1.ws.length c'] 33)=w3:=⟨_,rfl⟩
 rw[hw3] at hB3 q3 z3 n3 hs3 ⊢
 have HB3:=lh hB3
 have HS3:=lh hs3
 have Q3:=lh q3
 have Z3:=lh z3
 have n0:w3.cell? ⟨w1.heap.size,0,none⟩=some (.int .i64 m.yng.base):=n3.cell 0
 have n1:w3.cell? ⟨w1.heap.size,1,none⟩=some (.int .i64 m.yng.limit):=n3.cell 1
 have n2:w3.cell? ⟨w1.heap.size,2,none⟩=some (.slice A' r.2.1.ws.length c'):=n3.cell 2
 have k0:w3.cell? ⟨w.heap.size,0,none⟩=some (.int .i64 m.old.base):=q3.cell 0
 have kf0:w3.frozen? ⟨w.heap.size,0,none⟩=false:=q3.free 0
 have k1:w3.cell? ⟨w.heap.size,1,none⟩=some (.int .i64 m.old.limit):=q3.cell 1
 have kf1:w3.frozen? ⟨w.heap.size,1,none⟩=false:=q3.free 1
 have k2:w3.cell? ⟨w.heap.size,2,none⟩=some (.slice A1 m.old.ws.length c1):=q3.cell 2
 have kf2:w3.frozen? ⟨w.heap.size,2,none⟩=false:=q3.free 2
 have k3:w3.cell? ⟨w.heap.size,3,none⟩=some (.int .i64 m.yng.base):=q3.cell 3
 have kf3:w3.frozen? ⟨w.heap.size,3,none⟩=false:=q3.free 3
 have k4:w3.cell? ⟨w.heap.size,4,none⟩=some (.int .i64 m.yng.limit):=q3.cell 4
 have kf4:w3.frozen? ⟨w.heap.size,4,none⟩=false:=q3.free 4
 have k5:w3.cell? ⟨w.heap.size,5,none⟩=some (.slice A2 m.yng.ws.length c2):=q3.cell 5
 have kf5:w3.frozen? ⟨w.heap.size,5,none⟩=false:=q3.free 5
 have hne1:w.heap.size≠w1.heap.size:=by omega
 clear hw3 hB3 q3 z3 n3 hs3
 go_upto_region 4 with fail
 obtain⟨w4,hw4⟩:∃ w4,(((w3.setCell ⟨w.heap.size,3,none⟩ (.int .i64 m.yng.base)).setCell ⟨w.heap.size,4,none⟩ (.int .i64 m.yng.limit)).setCell ⟨w.heap.size,5,none⟩ (.slice A' r.2.1.ws.length c'))=w4:=⟨_,rfl⟩
 have hB4:Below w.heap.size w (((w3.setCell ⟨w.heap.size,3,none⟩ (.int .i64 m.yng.base)).setCell ⟨w.heap.size,4,none⟩ (.int .i64 m.yng.limit)).setCell ⟨w.heap.size,5,none⟩ (.slice A' r.2.1.ws.length c')):=((HB3.out.setCell (p:=⟨w.heap.size,3,none⟩) (Nat.le_refl _) _).setCell (p:=⟨w.heap.size,4,none⟩) (Nat.le_refl _) _).setCell (p:=⟨w.heap.size,5,none⟩) (Nat.le_refl _) _
 have q4:Bk (((w3.setCell ⟨w.heap.size,3,none⟩ (.int .i64 m.yng.base)).setCell ⟨w.heap.size,4,none⟩ (.int .i64 m.yng.limit)).setCell ⟨w.heap.size,5,none⟩ (.slice A' r.2.1.ws.length c')) w.heap.size 35 #[.int .i64 m.old.base,.int .i64 m.old.limit,.slice A1 m.old.ws.length c1,.int .i64 m.yng.base,.int .i64 m.yng.limit,.slice A' r.2.1.ws.length c']:=((Q3.out.set 3 _).set 4 _).set 5 _
 have z4:Bk (((w3.setCell ⟨w.heap.size,3,none⟩ (.int .i64 m.yng.base)).setCell ⟨w.heap.size,4,none⟩ (.int .i64 m.yng.limit)).setCell ⟨w.heap.size,5,none⟩ (.slice A' r.2.1.ws.length c')) (w.heap.size+1+1+1) 35 #[.int .i64 0,.int .i64 0,.slice none 0 0,.int .i64 0,.int .i64 0,.slice none 0 0]:=Z3.out.far3 (by omega) _ _ _ _ _ _
 have hs4:RS (((w3.setCell ⟨w.heap.size,3,none⟩ (.int .i64 m.yng.base)).setCell ⟨w.heap.size,4,none⟩ (.int .i64 m.yng.limit)).setCell ⟨w.heap.size,5,none⟩ (.slice A' r.2.1.ws.length c')) r.2.1 A' c':=((HS3.out.setCell (p:=⟨w.heap.size,3,none⟩) (HS3.out.away Q3.out rfl) _).setCell (p:=⟨w.heap.size,4,none⟩) (HS3.out.away Q3.out rfl) _).setCell (p:=⟨w.heap.size,5,none⟩) (HS3.out.away Q3.out rfl) _
 rw[hw4] at hB4 q4 z4 hs4 ⊢
 have HB4:=lh hB4
 have HS4:=lh hs4
 have HAW:=lh (hs4.away z4 rfl)
 clear k0 k1 k2 k3 k4 k5 kf0 kf1 kf2 kf3 kf4 kf5 n0 n1 n2 hw4 hB4 hs4
 have k0:w4.cell? ⟨w.heap.size,0,none⟩=some (.int .i64 m.old.base):=q4.cell 0
 have k1:w4.cell? ⟨w.heap.size,1,none⟩=some (.int .i64 m.old.limit):=q4.cell 1
 have k2:w4.cell? ⟨w.heap.size,2,none⟩=some (.slice A1 m.old.ws.length c1):=q4.cell 2
 have k3:w4.cell? ⟨w.heap.size,3,none⟩=some (.int .i64 m.yng.base):=q4.cell 3
 have k4:w4.cell? ⟨w.heap.size,4,none⟩=some (.int .i64 m.yng.limit):=q4.cell 4
 have k5:w4.cell? ⟨w.heap.size,5,none⟩=some (.slice A' r.2.1.ws.length c'):=q4.cell 5
 have d0:w4.cell? ⟨w.heap.size+1+1+1,0,none⟩=some (.int .i64 0):=z4.cell 0
 have df0:w4.frozen? ⟨w.heap.size+1+1+1,0,none⟩=false:=z4.free 0
 have d1:w4.cell? ⟨w.heap.size+1+1+1,1,none⟩=some (.int .i64 0):=z4.cell 1
 have df1:w4.frozen? ⟨w.heap.size+1+1+1,1,none⟩=false:=z4.free 1
 have d2:w4.cell? ⟨w.heap.size+1+1+1,2,none⟩=some (.slice none 0 0):=z4.cell 2
 have df2:w4.frozen? ⟨w.heap.size+1+1+1,2,none⟩=false:=z4.free 2
 have d3:w4.cell? ⟨w.heap.size+1+1+1,3,none⟩=some (.int .i64 0):=z4.cell 3
 have df3:w4.frozen? ⟨w.heap.size+1+1+1,3,none⟩=false:=z4.free 3
 have d4:w4.cell? ⟨w.heap.size+1+1+1,4,none⟩=some (.int .i64 0):=z4.cell 4
 have df4:w4.frozen? ⟨w.heap.size+1+1+1,4,none⟩=false:=z4.free 4
 have d5:w4.cell? ⟨w.heap.size+1+1+1,5,none⟩=some (.slice none 0 0):=z4.cell 5
 have df5:w4.frozen? ⟨w.heap.size+1+1+1,5,none⟩=false:=z4.free 5
 clear q4 z4
 go_wp2_with fail
 have hle3:w.heap.size≤w.heap.size+1+1+1:=by omega
 have hbb:=((((((HB4.out.setCell (p:=⟨w.heap.size+1+1+1,0,none⟩) hle3 (.int .i64 m.old.base)).setCell (p:=⟨w.heap.size+1+1+1,1,none⟩) hle3 (.int .i64 m.old.limit)).setCell (p:=⟨w.heap.size+1+1+1,2,none⟩) hle3 (.slice A1 m.old.ws.length c1)).setCell (p:=⟨w.heap.size+1+1+1,3,none⟩) hle3 (.int .i64 m.yng.base)).setCell (p:=⟨w.heap.size+1+1+1,4,none⟩) hle3 (.int .i64 m.yng.limit)).setCell (p:=⟨w.heap.size+1+1+1,5,none⟩) hle3 (.slice A' r.2.1.ws.length c'))
 have hns:=((((((HS4.out.setCell (p:=⟨w.heap.size+1+1+1,0,none⟩) HAW.out (.int .i64 m.old.base)).setCell (p:=⟨w.heap.size+1+1+1,1,none⟩) HAW.out (.int .i64 m.old.limit)).setCell (p:=⟨w.heap.size+1+1+1,2,none⟩) HAW.out (.slice A1 m.old.ws.length c1)).setCell (p:=⟨w.heap.size+1+1+1,3,none⟩) HAW.out (.int .i64 m.yng.base)).setCell (p:=⟨w.heap.size+1+1+1,4,none⟩) HAW.out (.int .i64 m.yng.limit)).setCell (p:=⟨w.heap.size+1+1+1,5,none⟩) HAW.out (.slice A' r.2.1.ws.length c'))
 refine bodyPost_ret (v:=.tuple #[.agg #[.int .i64 m.old.base,.int .i64 m.old.limit,.slice A1 m.old.ws.length c1,.int .i64 m.yng.base,.int .i64 m.yng.limit,.slice A' r.2.1.ws.length c'],.int .i64 r.2.2,.int .i64 r.1]) (by simp[results,Tryz.results84,go_sem,d0,d1,d2,d3,d4,d5]) rfl ?_
 rw[HR.out]
 refine⟨A1,c1,A',c',?_,⟨(H.out.below hbb).o,hns⟩,hbb,Nw.refl _ _,HNW.out⟩
 unfold rmV
 simp only[hbs.out,hlm.out]
set_option maxHeartbeats 4000000 in
theorem RMAlloc_o (h:RM w m A1 c1 A2 c2) (hd:Hdr) (i:Id):Calls Tryz.prog 84 #[rmV m A1 c1 A2 c2,.bool false,hd.val,i.val] w (RMAlP w A1 A2 (m.alloc false hd i)):=by
 have HB0:Hid (Below w.heap.size w ((((w.alloc (.cells #[.int .i64 m.old.base,.int .i64 m.old.limit,.slice A1 m.old.ws.length c1,.int .i64 m.yng.base,.int .i64 m.yng.limit,.slice A2 m.yng.ws.length c2] 35)).alloc (.cells #[.int .i64 hd.k,.int .i64 hd.c,.int .i64 hd.f] 58)).alloc (.cells #[.int .i64 i.m,.int .i64 i.s] 65)).alloc (.cells #[.int .i64 0,.int .i64 0,.slice none 0 0,.int .i64 0,.int .i64 0,.slice none 0 0] 35))):=lh (((((Below.refl _ _).alloc (Nat.le_refl _) _).alloc (by simp) _).alloc (by simp;omega) _).alloc (by simp;omega) _)
 have B00:Hid (Bk ((((w.alloc (.cells #[.int .i64 m.old.base,.int .i64 m.old.limit,.slice A1 m.old.ws.length c1,.int .i64 m.yng.base,.int .i64 m.yng.limit,.slice A2 m.yng.ws.length c2] 35)).alloc (.cells #[.int .i64 hd.k,.int .i64 hd.c,.int .i64 hd.f] 58)).alloc (.cells #[.int .i64 i.m,.int .i64 i.s] 65)).alloc (.cells #[.int .i64 0,.int .i64 0,.slice none 0 0,.int .i64 0,.int .i64 0,.slice none 0 0] 35)) (w.heap.size) 35 #[.int .i64 m.old.base,.int .i64 m.old.limit,.slice A1 m.old.ws.length c1,.int .i64 m.yng.base,.int .i64 m.yng.limit,.slice A2 m.yng.ws.length c2]):=lh (((Bk.new _ _ _).alloc _).alloc _ |>.alloc _)
 have B30:Hid (Bk ((((w.alloc (.cells #[.int .i64 m.old.base,.int .i64 m.old.limit,.slice A1 m.old.ws.length c1,.int .i64 m.yng.base,.int .i64 m.yng.limit,.slice A2 m.yng.ws.length c2] 35)).alloc (.cells #[.int .i64 hd.k,.int .i64 hd.c,.int .i64 hd.f] 58)).alloc (.cells #[.int .i64 i.m,.int .i64 i.s] 65)).alloc (.cells #[.int .i64 0,.int .i64 0,.slice none 0 0,.int .i64 0,.int .i64 0,.slice none 0 0] 35)) (w.heap.size+1+1+1) 35 #[.int .i64 0,.int .i64 0,.slice none 0 0,.int .i64 0,.int .i64 0,.slice none 0 0]):=lh (Bk.here _ _ _ (by simp))
 have hoB:=(h.below HB0.out).y
 have cA:=RAlloc_any (h.below HB0.out).o hd i
 have H:=lh h
 obtain⟨hbs,hlm⟩:=Spc.alloc_bl m.old hd i
 obtain⟨r,hr⟩:∃ r,r=m.old.alloc hd i:=⟨_,rfl⟩
 have HR:Hid (m.alloc false hd i=(r.1,{ m with old:=r.2.1 },r.2.2)):=lh (by rw[hr];rfl)
 rw[← hr] at cA hbs hlm
 have hbs:=lh hbs
 have hlm:=lh hlm
 unfold rmV Hdr.val Id.val rsV at *
 clear h hr hoB
 go_enter Tryz.func84,Tryz.ntmps84
 go_wp2_with fail
 refine cA.mono ?_
 rintro e w1 ⟨A',c',rfl,hs1,hb,hnw⟩
 have HNW:=lh (hnw.mono HB0.out.size)
 clear hnw
 have HB1:=lh (HB0.out.trans (hb.mono HB0.out.size))
 have HS1:=lh hs1
 have Q1:=lh (B00.out.below hb B00.out.lt)
 have Z1:=lh (B30.out.below hb B30.out.lt)
 have hz1:=Z1.out.lt
 unfold rsV
 rw[hbs.out,hlm.out]
 clear hs1 hb
 go_upto_region 6 with fail
 have hB3:=HB1.out.alloc HB1.out.size (.cells #[.int .i64 m.old.base,.int .i64 m.old.limit,.slice A' r.2.1.ws.length c'] 33)
 have q3:=Q1.out.alloc (.cells #[.int .i64 m.old.base,.int .i64 m.old.limit,.slice A' r.2.1.ws.length c'] 33)
 have z3:=Z1.out.alloc (.cells #[.int .i64 m.old.base,.int .i64 m.old.limit,.slice A' r.2.1.ws.length c'] 33)
 have n3:=Bk.new w1 33 #[.int .i64 m.old.base,.int .i64 m.old.limit,.slice A' r.2.1.ws.length c']
 have hs3:RS (w1.alloc (.cells #[.int .i64 m.old.base,.int .i64 m.old.limit,.slice A' r.2.1.ws.length c'] 33)) r.2.1 A' c':=HS1.out.below ((Below.refl _ _).alloc (Nat.le_refl _) _)
 obtain⟨w3,hw3⟩:∃ w3,w1.alloc (.cells #[.int .i64 m.old.base,.int .i64 m.old.limit,.slice A' r.2.1.ws.length c'] 33)=w3:=⟨_,rfl⟩
 rw[hw3] at hB3 q3 z3 n3 hs3 ⊢
 have HB3:=lh hB3
 have HS3:=lh hs3
 have Q3:=lh q3
 have Z3:=lh z3
 have n0:w3.cell? ⟨w1.heap.size,0,none⟩=some (.int .i64 m.old.base):=n3.cell 0
 have n1:w3.cell? ⟨w1.heap.size,1,none⟩=some (.int .i64 m.old.limit):=n3.cell 1
 have n2:w3.cell? ⟨w1.heap.size,2,none⟩=some (.slice A' r.2.1.ws.length c'):=n3.cell 2
 have k0:w3.cell? ⟨w.heap.size,0,none⟩=some (.int .i64 m.old.base):=q3.cell 0
 have kf0:w3.frozen? ⟨w.heap.size,0,none⟩=false:=q3.free 0
 have k1:w3.cell? ⟨w.heap.size,1,none⟩=some (.int .i64 m.old.limit):=q3.cell 1
 have kf1:w3.frozen? ⟨w.heap.size,1,none⟩=false:=q3.free 1
 have k2:w3.cell? ⟨w.heap.size,2,none⟩=some (.slice A1 m.old.ws.length c1):=q3.cell 2
 have kf2:w3.frozen? ⟨w.heap.size,2,none⟩=false:=q3.free 2
 have k3:w3.cell? ⟨w.heap.size,3,none⟩=some (.int .i64 m.yng.base):=q3.cell 3
 have kf3:w3.frozen? ⟨w.heap.size,3,none⟩=false:=q3.free 3
 have k4:w3.cell? ⟨w.heap.size,4,none⟩=some (.int .i64 m.yng.limit):=q3.cell 4
 have kf4:w3.frozen? ⟨w.heap.size,4,none⟩=false:=q3.free 4
 have k5:w3.cell? ⟨w.heap.size,5,none⟩=some (.slice A2 m.yng.ws.length c2):=q3.cell 5
 have kf5:w3.frozen? ⟨w.heap.size,5,none⟩=false:=q3.free 5
 have hne1:w.heap.size≠w1.heap.size:=by omega
 clear hw3 hB3 q3 z3 n3 hs3
 go_upto_region 7 with fail
 obtain⟨w4,hw4⟩:∃ w4,(((w3.setCell ⟨w.heap.size,0,none⟩ (.int .i64 m.old.base)).setCell ⟨w.heap.size,1,none⟩ (.int .i64 m.old.limit)).setCell ⟨w.heap.size,2,none⟩ (.slice A' r.2.1.ws.length c'))=w4:=⟨_,rfl⟩
 have hB4:Below w.heap.size w (((w3.setCell ⟨w.heap.size,0,none⟩ (.int .i64 m.old.base)).setCell ⟨w.heap.size,1,none⟩ (.int .i64 m.old.limit)).setCell ⟨w.heap.size,2,none⟩ (.slice A' r.2.1.ws.length c')):=((HB3.out.setCell (p:=⟨w.heap.size,0,none⟩) (Nat.le_refl _) _).setCell (p:=⟨w.heap.size,1,none⟩) (Nat.le_refl _) _).setCell (p:=⟨w.heap.size,2,none⟩) (Nat.le_refl _) _
 have q4:Bk (((w3.setCell ⟨w.heap.size,0,none⟩ (.int .i64 m.old.base)).setCell ⟨w.heap.size,1,none⟩ (.int .i64 m.old.limit)).setCell ⟨w.heap.size,2,none⟩ (.slice A' r.2.1.ws.length c')) w.heap.size 35 #[.int .i64 m.old.base,.int .i64 m.old.limit,.slice A' r.2.1.ws.length c',.int .i64 m.yng.base,.int .i64 m.yng.limit,.slice A2 m.yng.ws.length c2]:=((Q3.out.set 0 _).set 1 _).set 2 _
 have z4:Bk (((w3.setCell ⟨w.heap.size,0,none⟩ (.int .i64 m.old.base)).setCell ⟨w.heap.size,1,none⟩ (.int .i64 m.old.limit)).setCell ⟨w.heap.size,2,none⟩ (.slice A' r.2.1.ws.length c')) (w.heap.size+1+1+1) 35 #[.int .i64 0,.int .i64 0,.slice none 0 0,.int .i64 0,.int .i64 0,.slice none 0 0]:=Z3.out.far3 (by omega) _ _ _ _ _ _
 have hs4:RS (((w3.setCell ⟨w.heap.size,0,none⟩ (.int .i64 m.old.base)).setCell ⟨w.heap.size,1,none⟩ (.int .i64 m.old.limit)).setCell ⟨w.heap.size,2,none⟩ (.slice A' r.2.1.ws.length c')) r.2.1 A' c':=((HS3.out.setCell (p:=⟨w.heap.size,0,none⟩) (HS3.out.away Q3.out rfl) _).setCell (p:=⟨w.heap.size,1,none⟩) (HS3.out.away Q3.out rfl) _).setCell (p:=⟨w.heap.size,2,none⟩) (HS3.out.away Q3.out rfl) _
 rw[hw4] at hB4 q4 z4 hs4 ⊢
 have HB4:=lh hB4
 have HS4:=lh hs4
 have HAW:=lh (hs4.away z4 rfl)
 clear k0 k1 k2 k3 k4 k5 kf0 kf1 kf2 kf3 kf4 kf5 n0 n1 n2 hw4 hB4 hs4
 have k0:w4.cell? ⟨w.heap.size,0,none⟩=some (.int .i64 m.old.base):=q4.cell 0
 have k1:w4.cell? ⟨w.heap.size,1,none⟩=some (.int .i64 m.old.limit):=q4.cell 1
 have k2:w4.cell? ⟨w.heap.size,2,none⟩=some (.slice A' r.2.1.ws.length c'):=q4.cell 2
 have k3:w4.cell? ⟨w.heap.size,3,none⟩=some (.int .i64 m.yng.base):=q4.cell 3
 have k4:w4.cell? ⟨w.heap.size,4,none⟩=some (.int .i64 m.yng.limit):=q4.cell 4
 have k5:w4.cell? ⟨w.heap.size,5,none⟩=some (.slice A2 m.yng.ws.length c2):=q4.cell 5
 have d0:w4.cell? ⟨w.heap.size+1+1+1,0,none⟩=some (.int .i64 0):=z4.cell 0
 have df0:w4.frozen? ⟨w.heap.size+1+1+1,0,none⟩=false:=z4.free 0
 have d1:w4.cell? ⟨w.heap.size+1+1+1,1,none⟩=some (.int .i64 0):=z4.cell 1
 have df1:w4.frozen? ⟨w.heap.size+1+1+1,1,none⟩=false:=z4.free 1
 have d2:w4.cell? ⟨w.heap.size+1+1+1,2,none⟩=some (.slice none 0 0):=z4.cell 2
 have df2:w4.frozen? ⟨w.heap.size+1+1+1,2,none⟩=false:=z4.free 2
 have d3:w4.cell? ⟨w.heap.size+1+1+1,3,none⟩=some (.int .i64 0):=z4.cell 3
 have df3:w4.frozen? ⟨w.heap.size+1+1+1,3,none⟩=false:=z4.free 3
 have d4:w4.cell? ⟨w.heap.size+1+1+1,4,none⟩=some (.int .i64 0):=z4.cell 4
 have df4:w4.frozen? ⟨w.heap.size+1+1+1,4,none⟩=false:=z4.free 4
 have d5:w4.cell? ⟨w.heap.size+1+1+1,5,none⟩=some (.slice none 0 0):=z4.cell 5
 have df5:w4.frozen? ⟨w.heap.size+1+1+1,5,none⟩=false:=z4.free 5
 clear q4 z4
 go_wp2_with fail
 have hle3:w.heap.size≤w.heap.size+1+1+1:=by omega
 have hbb:=((((((HB4.out.setCell (p:=⟨w.heap.size+1+1+1,0,none⟩) hle3 (.int .i64 m.old.base)).setCell (p:=⟨w.heap.size+1+1+1,1,none⟩) hle3 (.int .i64 m.old.limit)).setCell (p:=⟨w.heap.size+1+1+1,2,none⟩) hle3 (.slice A' r.2.1.ws.length c')).setCell (p:=⟨w.heap.size+1+1+1,3,none⟩) hle3 (.int .i64 m.yng.base)).setCell (p:=⟨w.heap.size+1+1+1,4,none⟩) hle3 (.int .i64 m.yng.limit)).setCell (p:=⟨w.heap.size+1+1+1,5,none⟩) hle3 (.slice A2 m.yng.ws.length c2))
 have hns:=((((((HS4.out.setCell (p:=⟨w.heap.size+1+1+1,0,none⟩) HAW.out (.int .i64 m.old.base)).setCell (p:=⟨w.heap.size+1+1+1,1,none⟩) HAW.out (.int .i64 m.old.limit)).setCell (p:=⟨w.heap.size+1+1+1,2,none⟩) HAW.out (.slice A' r.2.1.ws.length c')).setCell (p:=⟨w.heap.size+1+1+1,3,none⟩) HAW.out (.int .i64 m.yng.base)).setCell (p:=⟨w.heap.size+1+1+1,4,none⟩) HAW.out (.int .i64 m.yng.limit)).setCell (p:=⟨w.heap.size+1+1+1,5,none⟩) HAW.out (.slice A2 m.yng.ws.length c2))
 refine bodyPost_ret (v:=.tuple #[.agg #[.int .i64 m.old.base,.int .i64 m.old.limit,.slice A' r.2.1.ws.length c',.int .i64 m.yng.base,.int .i64 m.yng.limit,.slice A2 m.yng.ws.length c2],.int .i64 r.2.2,.int .i64 r.1]) (by simp[results,Tryz.results84,go_sem,d0,d1,d2,d3,d4,d5]) rfl ?_
 rw[HR.out]
 refine⟨A',c',A2,c2,?_,⟨hns,(H.out.below hbb).y⟩,hbb,HNW.out,Nw.refl _ _⟩
 unfold rmV
 simp only[hbs.out,hlm.out]
theorem RMAlloc_any (h:RM w m A1 c1 A2 c2) (young:Bool) (hd:Hdr) (i:Id):Calls Tryz.prog 84 #[rmV m A1 c1 A2 c2,.bool young,hd.val,i.val] w (RMAlP w A1 A2 (m.alloc young hd i)):=by
 cases young with
 | true=>exact RMAlloc_y h hd i
 | false=>exact RMAlloc_o h hd i
end
end
end Go.Proofs.YtaijmgkjbbiboaaGreat
