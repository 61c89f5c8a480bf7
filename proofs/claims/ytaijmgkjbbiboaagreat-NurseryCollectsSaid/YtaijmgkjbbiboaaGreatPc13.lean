/- Parts of the proof: RBst. -/
import Derived.RegionTactic
import Derived.Test.YtaijmgkjbbiboaaGreatPcA
import Derived.Test.YtaijmgkjbbiboaaGreatPc12
set_option linter.unusedVariables false
set_option linter.unusedSimpArgs false
set_option linter.unusedSectionVars false
set_option maxRecDepth 100000
namespace Go.Proofs.YtaijmgkjbbiboaaGreat
section
open Go.RowKit Go.Sort
/-- the reference's cards -/
structure RC (w:World) (cs:List Int) (A:Option Addr) (c:Nat):Prop where
 s:IS w cs A c
 m:c≤maxLen
 n:cs=[]→A=none∧c=0
theorem RC.below {w w':World} {cs:List Int} {A:Option Addr} {c:Nat} (h:RC w cs A c) (hb:Below w.heap.size w w'):RC w' cs A c:=⟨h.s.below hb,h.m,h.n⟩
theorem RC.away {w:World} {cs:List Int} {A A':Option Addr} {c g H n:Nat} (h:RC w cs A c) (hA:∀ b o,A'=some ⟨b,o,none⟩→A'=A ∨ H≤b) (h1:w.heap.size≤g) (h2:g < H):Away A' n g:=by
 refine .inr fun b o e hb=>?_
 rcases hA b o e with h3 | h3
 ·rw[h3] at e
  rcases Nat.eq_zero_or_pos cs.length with h0 | h0
  ·have:=(h.n (List.length_eq_zero_iff.1 h0)).1
   rw[e] at this
   cases this
  ·obtain⟨b',o',e',hl,_⟩:=h.s.sl.get h0
   rw[e] at e'
   cases e'
   omega
 ·omega
theorem RC.setCell {w:World} {cs:List Int} {A:Option Addr} {c:Nat} (h:RC w cs A c) {p:Addr} (ha:Away A cs.length p.block) (u:Value):RC (w.setCell p u) cs A c:=by
 refine⟨⟨⟨h.s.sl.1,?_⟩,h.s.cap⟩,h.m,h.n⟩
 rcases h.s.sl.2 with h0 | ⟨b,o,e,hb,hc⟩
 ·exact .inl h0
 ·rcases ha with h1 | h1
  ·exact .inl h1
  ·subst e
   exact .inr ⟨b,o,rfl,by simpa [World.setCell] using hb,fun j x hx=>cellFar u (hc j x hx) (h1 b o rfl)⟩
theorem RS.drew {w:World} {s:Spc} {A:Option Addr} {c:Nat} (h:RS w s A c):RS w.drew s A c:=⟨h.sl.drew,h.cap,h.u,h.b0,h.lim,h.l0,h.lt⟩
theorem RC.drew {w:World} {cs:List Int} {A:Option Addr} {c:Nat} (h:RC w cs A c):RC w.drew cs A c:=⟨⟨h.s.sl.drew,h.s.cap⟩,h.m,h.n⟩
def RBsP (w:World) (B1 B2 Bc:Option Addr) (r:Int × Mm × List Int) (e:Ending) (w':World):Prop:=∃ A1 c1 A2 c2 A c,e=.returned (.tuple #[rmV r.2.1 A1 c1 A2 c2,.agg #[.slice A r.2.2.length c],.int .i64 r.1])∧RM w' r.2.1 A1 c1 A2 c2∧RC w' r.2.2 A c∧Below w.heap.size w w'∧Nw w.heap.size B1 A1∧Nw w.heap.size B2 A2∧Nw w.heap.size Bc A
theorem cardMark_nil {cs:List Int} {a:Int} (h:(cardMark cs a).2=[]):cs=[]∧oldB a=false ∨ (cardMark cs a).2=cs:=by
 unfold cardMark at h ⊢
 split
 ·exact .inr rfl
 ·split
  ·exact .inr rfl
  ·rename_i h1 h2
   rw[if_neg h1,if_neg h2] at h
   cases cs with
   | nil=>cases h
   | cons y l=>unfold cardIns at h;split at h <;> cases h
theorem RMark_rc {w:World} {cs:List Int} {A:Option Addr} {c:Nat} (h:RC w cs A c) (hl:cs.length≤100000) (a:Int):Calls Tryz.prog 88 #[.agg #[.slice A cs.length c],.int .i64 a] w fun e w'=>∃ A' c',e=.returned (.tuple #[.agg #[.slice A' (cardMark cs a).2.length c'],.int .i64 (cardMark cs a).1])∧RC w' (cardMark cs a).2 A' c'∧(∀ b o,A'=some ⟨b,o,none⟩→A'=A ∨ w.heap.size≤b)∧Below w.heap.size w w':=by
 by_cases hn:(cardMark cs a).2=[]
 ·-- nothing is marked: the table is nil and stays so
  have ho:oldB a=false:=by
   rcases cardMark_nil hn with h1 | h1
   ·exact h1.2
   ·cases ho:oldB a with
    | false=>rfl
    | true =>
     have:=cardMark_contains cs a ho (a / 16)
     rw[hn] at this
     simp at this
  have hcs:cs=[]:=by
   have:cardMark cs a=(2,cs):=by unfold cardMark;rw[if_pos ho]
   rw[this] at hn
   exact hn
  subst hcs
  obtain⟨rfl,rfl⟩:=h.n rfl
  have cO:=fun w=>ROld_any a w
  have hk:=lh (show cardMark [] a=(2,[]) by unfold cardMark;rw[if_pos ho])
  have HB:=lh (boxT2 w (.slice none 0 0))
  simp only[ho,List.length_nil] at cO ⊢
  clear h hn ho
  go_enter Tryz.func88,Tryz.ntmps88
  go_wp2_with fail
  refine(cO _).mono ?_
  rintro e w1 ⟨rfl,rfl⟩
  go_wp2_with fail
  refine bodyPost_ret (v:=.tuple #[.agg #[.slice none 0 0],.int .i64 2]) (by simp[results,Tryz.results88,go_sem]) rfl ?_
  rw[hk.out]
  exact⟨none,0,rfl,⟨⟨Sl.nil _ _ _,Nat.le_refl _⟩,Nat.zero_le _,fun _=>⟨rfl,rfl⟩⟩,(fun _ _ h=>by cases h),((Below.refl _ _).alloc (Nat.le_refl _) _).alloc (by simp) _⟩
 ·refine(RMark_any h.s hl h.m h.n a).mono ?_
  rintro e w' ⟨A',c',he,h1,h2,h5,h3⟩
  exact⟨A',c',he,⟨h1,h2,fun h4=>absurd h4 hn⟩,h5,h3⟩
section
variable {w:World} {m:Mm} {A1 A2:Option Addr} {c1 c2:Nat} {cs:List Int} {A:Option Addr} {c:Nat}
set_option maxHeartbeats 4000000 in
theorem RBst_no (h:RM w m A1 c1 A2 c2) (hr:RC w cs A c) (a i:Int) {x:Int} (hx:U64 x) (he:m.fldE a i≠0):Calls Tryz.prog 85 #[rmV m A1 c1 A2 c2,.agg #[.slice A cs.length c],.int .i64 a,.int .i64 i,.int .u64 x] w (RBsP w A1 A2 A ((m.fldE a i,m,cs))):=by
 have HB0:Hid (Below w.heap.size w ((((w.alloc (.cells #[.int .i64 m.old.base,.int .i64 m.old.limit,.slice A1 m.old.ws.length c1,.int .i64 m.yng.base,.int .i64 m.yng.limit,.slice A2 m.yng.ws.length c2] 35)).alloc (.cells #[.slice A cs.length c] 37)).alloc (.cells #[.int .i64 0,.int .i64 0,.slice none 0 0,.int .i64 0,.int .i64 0,.slice none 0 0] 35)).alloc (.cells #[.slice none 0 0] 37))):=lh (((((Below.refl _ _).alloc (Nat.le_refl _) _).alloc (by simp) _).alloc (by simp;omega) _).alloc (by simp;omega) _)
 have B00:Hid (Bk ((((w.alloc (.cells #[.int .i64 m.old.base,.int .i64 m.old.limit,.slice A1 m.old.ws.length c1,.int .i64 m.yng.base,.int .i64 m.yng.limit,.slice A2 m.yng.ws.length c2] 35)).alloc (.cells #[.slice A cs.length c] 37)).alloc (.cells #[.int .i64 0,.int .i64 0,.slice none 0 0,.int .i64 0,.int .i64 0,.slice none 0 0] 35)).alloc (.cells #[.slice none 0 0] 37)) (w.heap.size) 35 #[.int .i64 m.old.base,.int .i64 m.old.limit,.slice A1 m.old.ws.length c1,.int .i64 m.yng.base,.int .i64 m.yng.limit,.slice A2 m.yng.ws.length c2]):=lh (((Bk.new _ _ _).alloc _).alloc _ |>.alloc _)
 have B10:Hid (Bk ((((w.alloc (.cells #[.int .i64 m.old.base,.int .i64 m.old.limit,.slice A1 m.old.ws.length c1,.int .i64 m.yng.base,.int .i64 m.yng.limit,.slice A2 m.yng.ws.length c2] 35)).alloc (.cells #[.slice A cs.length c] 37)).alloc (.cells #[.int .i64 0,.int .i64 0,.slice none 0 0,.int .i64 0,.int .i64 0,.slice none 0 0] 35)).alloc (.cells #[.slice none 0 0] 37)) (w.heap.size+1) 37 #[.slice A cs.length c]):=lh (((Bk.here _ _ _ (by simp)).alloc _).alloc _)
 have B20:Hid (Bk ((((w.alloc (.cells #[.int .i64 m.old.base,.int .i64 m.old.limit,.slice A1 m.old.ws.length c1,.int .i64 m.yng.base,.int .i64 m.yng.limit,.slice A2 m.yng.ws.length c2] 35)).alloc (.cells #[.slice A cs.length c] 37)).alloc (.cells #[.int .i64 0,.int .i64 0,.slice none 0 0,.int .i64 0,.int .i64 0,.slice none 0 0] 35)).alloc (.cells #[.slice none 0 0] 37)) (w.heap.size+1+1) 35 #[.int .i64 0,.int .i64 0,.slice none 0 0,.int .i64 0,.int .i64 0,.slice none 0 0]):=lh ((Bk.here _ _ _ (by simp)).alloc _)
 have B30:Hid (Bk ((((w.alloc (.cells #[.int .i64 m.old.base,.int .i64 m.old.limit,.slice A1 m.old.ws.length c1,.int .i64 m.yng.base,.int .i64 m.yng.limit,.slice A2 m.yng.ws.length c2] 35)).alloc (.cells #[.slice A cs.length c] 37)).alloc (.cells #[.int .i64 0,.int .i64 0,.slice none 0 0,.int .i64 0,.int .i64 0,.slice none 0 0] 35)).alloc (.cells #[.slice none 0 0] 37)) (w.heap.size+1+1+1) 37 #[.slice none 0 0]):=lh (Bk.here _ _ _ (by simp))
 have cS:=RSetField_any (h.below HB0.out) a i hx
 have H:=lh h
 have HR:=lh hr
 have HX:=lh hx
 rw[show m.setF a i x=(m.fldE a i,m) by unfold Mm.setF;rw[if_pos he]] at cS
 obtain⟨er,her⟩:∃ er,er=m.fldE a i:=⟨_,rfl⟩
 rw[← her] at cS he ⊢
 have e1:(er == 0)=false:=by simp[he]
 have e2:(er != 0)=true:=by simp[he]
 unfold rmV at *
 clear h hr he hx her
 go_enter Tryz.func85,Tryz.ntmps85
 go_wp2_with fail
 refine cS.mono ?_
 rintro e w1 ⟨A1',c1',A2',c2',rfl,hm1,hb,hn1,hn2⟩
 have HNW:=lh (And.intro (hn1.mono HB0.out.size) (hn2.mono HB0.out.size))
 clear hn1 hn2
 have HB1:=lh (HB0.out.trans (hb.mono HB0.out.size))
 have B01:=lh (B00.out.below hb B00.out.lt)
 have B11:=lh (B10.out.below hb B10.out.lt)
 have B21:=lh (B20.out.below hb B20.out.lt)
 have B31:=lh (B30.out.below hb B30.out.lt)
 have hz1:=B31.out.lt
 unfold rmV
 clear hm1 hb
 go_upto_region 2 with fail
 have hB2:=HB1.out.alloc HB1.out.size (.cells #[.int .i64 m.old.base,.int .i64 m.old.limit,.slice A1' m.old.ws.length c1',.int .i64 m.yng.base,.int .i64 m.yng.limit,.slice A2' m.yng.ws.length c2'] 35)
 have b02:=B01.out.alloc (.cells #[.int .i64 m.old.base,.int .i64 m.old.limit,.slice A1' m.old.ws.length c1',.int .i64 m.yng.base,.int .i64 m.yng.limit,.slice A2' m.yng.ws.length c2'] 35)
 have b12:=B11.out.alloc (.cells #[.int .i64 m.old.base,.int .i64 m.old.limit,.slice A1' m.old.ws.length c1',.int .i64 m.yng.base,.int .i64 m.yng.limit,.slice A2' m.yng.ws.length c2'] 35)
 have b22:=B21.out.alloc (.cells #[.int .i64 m.old.base,.int .i64 m.old.limit,.slice A1' m.old.ws.length c1',.int .i64 m.yng.base,.int .i64 m.yng.limit,.slice A2' m.yng.ws.length c2'] 35)
 have b32:=B31.out.alloc (.cells #[.int .i64 m.old.base,.int .i64 m.old.limit,.slice A1' m.old.ws.length c1',.int .i64 m.yng.base,.int .i64 m.yng.limit,.slice A2' m.yng.ws.length c2'] 35)
 obtain⟨w2,hw2⟩:∃ w2,w1.alloc (.cells #[.int .i64 m.old.base,.int .i64 m.old.limit,.slice A1' m.old.ws.length c1',.int .i64 m.yng.base,.int .i64 m.yng.limit,.slice A2' m.yng.ws.length c2'] 35)=w2:=⟨_,rfl⟩
 rw[hw2] at hB2 b02 b12 b22 b32 ⊢
 have HB2:=lh hB2
 have k0:w2.cell? ⟨w.heap.size,0,none⟩=some (.int .i64 m.old.base):=b02.cell 0
 have k1:w2.cell? ⟨w.heap.size,1,none⟩=some (.int .i64 m.old.limit):=b02.cell 1
 have k2:w2.cell? ⟨w.heap.size,2,none⟩=some (.slice A1 m.old.ws.length c1):=b02.cell 2
 have k3:w2.cell? ⟨w.heap.size,3,none⟩=some (.int .i64 m.yng.base):=b02.cell 3
 have k4:w2.cell? ⟨w.heap.size,4,none⟩=some (.int .i64 m.yng.limit):=b02.cell 4
 have k5:w2.cell? ⟨w.heap.size,5,none⟩=some (.slice A2 m.yng.ws.length c2):=b02.cell 5
 have t0:w2.cell? ⟨w.heap.size+1,0,none⟩=some (.slice A cs.length c):=b12.cell 0
 have d0:w2.cell? ⟨w.heap.size+1+1,0,none⟩=some (.int .i64 0):=b22.cell 0
 have df0:w2.frozen? ⟨w.heap.size+1+1,0,none⟩=false:=b22.free 0
 have d1:w2.cell? ⟨w.heap.size+1+1,1,none⟩=some (.int .i64 0):=b22.cell 1
 have df1:w2.frozen? ⟨w.heap.size+1+1,1,none⟩=false:=b22.free 1
 have d2:w2.cell? ⟨w.heap.size+1+1,2,none⟩=some (.slice none 0 0):=b22.cell 2
 have df2:w2.frozen? ⟨w.heap.size+1+1,2,none⟩=false:=b22.free 2
 have d3:w2.cell? ⟨w.heap.size+1+1,3,none⟩=some (.int .i64 0):=b22.cell 3
 have df3:w2.frozen? ⟨w.heap.size+1+1,3,none⟩=false:=b22.free 3
 have d4:w2.cell? ⟨w.heap.size+1+1,4,none⟩=some (.int .i64 0):=b22.cell 4
 have df4:w2.frozen? ⟨w.heap.size+1+1,4,none⟩=false:=b22.free 4
 have d5:w2.cell? ⟨w.heap.size+1+1,5,none⟩=some (.slice none 0 0):=b22.cell 5
 have df5:w2.frozen? ⟨w.heap.size+1+1,5,none⟩=false:=b22.free 5
 have g0:w2.cell? ⟨w.heap.size+1+1+1,0,none⟩=some (.slice none 0 0):=b32.cell 0
 have gf0:w2.frozen? ⟨w.heap.size+1+1+1,0,none⟩=false:=b32.free 0
 have hr23:w.heap.size+1+1≠w.heap.size+1+1+1:=by omega
 clear hw2 hB2 b02 b12 b22 b32
 go_wp2_with fail
 go_region
 go_wp2_with fail
 have hle2:w.heap.size≤w.heap.size+1+1:=by omega
 have hle3:w.heap.size≤w.heap.size+1+1+1:=by omega
 have hbb:=(((((((HB2.out.setCell (p:=⟨w.heap.size+1+1,0,none⟩) hle2 (.int .i64 m.old.base)).setCell (p:=⟨w.heap.size+1+1,1,none⟩) hle2 (.int .i64 m.old.limit)).setCell (p:=⟨w.heap.size+1+1,2,none⟩) hle2 (.slice A1 m.old.ws.length c1)).setCell (p:=⟨w.heap.size+1+1,3,none⟩) hle2 (.int .i64 m.yng.base)).setCell (p:=⟨w.heap.size+1+1,4,none⟩) hle2 (.int .i64 m.yng.limit)).setCell (p:=⟨w.heap.size+1+1,5,none⟩) hle2 (.slice A2 m.yng.ws.length c2)).setCell (p:=⟨w.heap.size+1+1+1,0,none⟩) hle3 (.slice A cs.length c)).drew
 refine bodyPost_ret (v:=.tuple #[.agg #[.int .i64 m.old.base,.int .i64 m.old.limit,.slice A1 m.old.ws.length c1,.int .i64 m.yng.base,.int .i64 m.yng.limit,.slice A2 m.yng.ws.length c2],.agg #[.slice A cs.length c],.int .i64 er]) (by simp[results,Tryz.results85,go_sem,d0,d1,d2,d3,d4,d5,g0,hr23]) rfl ?_
 exact⟨A1,c1,A2,c2,A,c,rfl,H.out.below hbb,HR.out.below hbb,hbb,Nw.refl _ _,Nw.refl _ _,Nw.refl _ _⟩
set_option maxHeartbeats 4000000 in
theorem RBst_skip (h:RM w m A1 c1 A2 c2) (hr:RC w cs A c) (a i:Int) {x:Int} (hx:U64 x) (ho:m.Ok) (he:m.fldE a i=0) (hs:¬ (a < 16777216∧ygW x=true)):Calls Tryz.prog 85 #[rmV m A1 c1 A2 c2,.agg #[.slice A cs.length c],.int .i64 a,.int .i64 i,.int .u64 x] w (RBsP w A1 A2 A ((0,m.put (a+2+i) x,cs))):=by
 have HB0:Hid (Below w.heap.size w ((((w.alloc (.cells #[.int .i64 m.old.base,.int .i64 m.old.limit,.slice A1 m.old.ws.length c1,.int .i64 m.yng.base,.int .i64 m.yng.limit,.slice A2 m.yng.ws.length c2] 35)).alloc (.cells #[.slice A cs.length c] 37)).alloc (.cells #[.int .i64 0,.int .i64 0,.slice none 0 0,.int .i64 0,.int .i64 0,.slice none 0 0] 35)).alloc (.cells #[.slice none 0 0] 37))):=lh (((((Below.refl _ _).alloc (Nat.le_refl _) _).alloc (by simp) _).alloc (by simp;omega) _).alloc (by simp;omega) _)
 have B00:Hid (Bk ((((w.alloc (.cells #[.int .i64 m.old.base,.int .i64 m.old.limit,.slice A1 m.old.ws.length c1,.int .i64 m.yng.base,.int .i64 m.yng.limit,.slice A2 m.yng.ws.length c2] 35)).alloc (.cells #[.slice A cs.length c] 37)).alloc (.cells #[.int .i64 0,.int .i64 0,.slice none 0 0,.int .i64 0,.int .i64 0,.slice none 0 0] 35)).alloc (.cells #[.slice none 0 0] 37)) (w.heap.size) 35 #[.int .i64 m.old.base,.int .i64 m.old.limit,.slice A1 m.old.ws.length c1,.int .i64 m.yng.base,.int .i64 m.yng.limit,.slice A2 m.yng.ws.length c2]):=lh (((Bk.new _ _ _).alloc _).alloc _ |>.alloc _)
 have B10:Hid (Bk ((((w.alloc (.cells #[.int .i64 m.old.base,.int .i64 m.old.limit,.slice A1 m.old.ws.length c1,.int .i64 m.yng.base,.int .i64 m.yng.limit,.slice A2 m.yng.ws.length c2] 35)).alloc (.cells #[.slice A cs.length c] 37)).alloc (.cells #[.int .i64 0,.int .i64 0,.slice none 0 0,.int .i64 0,.int .i64 0,.slice none 0 0] 35)).alloc (.cells #[.slice none 0 0] 37)) (w.heap.size+1) 37 #[.slice A cs.length c]):=lh (((Bk.here _ _ _ (by simp)).alloc _).alloc _)
 have B20:Hid (Bk ((((w.alloc (.cells #[.int .i64 m.old.base,.int .i64 m.old.limit,.slice A1 m.old.ws.length c1,.int .i64 m.yng.base,.int .i64 m.yng.limit,.slice A2 m.yng.ws.length c2] 35)).alloc (.cells #[.slice A cs.length c] 37)).alloc (.cells #[.int .i64 0,.int .i64 0,.slice none 0 0,.int .i64 0,.int .i64 0,.slice none 0 0] 35)).alloc (.cells #[.slice none 0 0] 37)) (w.heap.size+1+1) 35 #[.int .i64 0,.int .i64 0,.slice none 0 0,.int .i64 0,.int .i64 0,.slice none 0 0]):=lh ((Bk.here _ _ _ (by simp)).alloc _)
 have B30:Hid (Bk ((((w.alloc (.cells #[.int .i64 m.old.base,.int .i64 m.old.limit,.slice A1 m.old.ws.length c1,.int .i64 m.yng.base,.int .i64 m.yng.limit,.slice A2 m.yng.ws.length c2] 35)).alloc (.cells #[.slice A cs.length c] 37)).alloc (.cells #[.int .i64 0,.int .i64 0,.slice none 0 0,.int .i64 0,.int .i64 0,.slice none 0 0] 35)).alloc (.cells #[.slice none 0 0] 37)) (w.heap.size+1+1+1) 37 #[.slice none 0 0]):=lh (Bk.here _ _ _ (by simp))
 have cS:=RSetField_any (h.below HB0.out) a i hx
 have H:=lh h
 have HR:=lh hr
 have HX:=lh hx
 rw[ho.setF_ok he] at cS
 obtain⟨ab0,ab1,ib0,ib1⟩:=Mm.fldE_bound h.o.ok h.y.ok he
 have cY:=fun w=>Young_any hx w
 obtain⟨m',hm'⟩:∃ m',m'=m.put (a+2+i) x:=⟨_,rfl⟩
 rw[← hm'] at cS ⊢
 unfold rmV at *
 clear h hr he hx hm' ho
 obtain⟨yb,hyb⟩:∃ yb,yb=ygW x:=⟨_,rfl⟩
 rw[← hyb] at cY hs
 clear hyb
 go_enter Tryz.func85,Tryz.ntmps85
 go_wp2_with fail
 refine cS.mono ?_
 rintro e w1 ⟨A1',c1',A2',c2',rfl,hm1,hb,hn1,hn2⟩
 have HNW:=lh (And.intro (hn1.mono HB0.out.size) (hn2.mono HB0.out.size))
 clear hn1 hn2
 have HB1:=lh (HB0.out.trans (hb.mono HB0.out.size))
 have B01:=lh (B00.out.below hb B00.out.lt)
 have B11:=lh (B10.out.below hb B10.out.lt)
 have B21:=lh (B20.out.below hb B20.out.lt)
 have B31:=lh (B30.out.below hb B30.out.lt)
 have hz1:=B31.out.lt
 have HM1:=lh hm1
 unfold rmV
 clear hm1 hb
 go_upto_region 2 with fail
 have hB2:=HB1.out.alloc HB1.out.size (.cells #[.int .i64 m'.old.base,.int .i64 m'.old.limit,.slice A1' m'.old.ws.length c1',.int .i64 m'.yng.base,.int .i64 m'.yng.limit,.slice A2' m'.yng.ws.length c2'] 35)
 have b12:=B11.out.alloc (.cells #[.int .i64 m'.old.base,.int .i64 m'.old.limit,.slice A1' m'.old.ws.length c1',.int .i64 m'.yng.base,.int .i64 m'.yng.limit,.slice A2' m'.yng.ws.length c2'] 35)
 have b22:=B21.out.alloc (.cells #[.int .i64 m'.old.base,.int .i64 m'.old.limit,.slice A1' m'.old.ws.length c1',.int .i64 m'.yng.base,.int .i64 m'.yng.limit,.slice A2' m'.yng.ws.length c2'] 35)
 have b32:=B31.out.alloc (.cells #[.int .i64 m'.old.base,.int .i64 m'.old.limit,.slice A1' m'.old.ws.length c1',.int .i64 m'.yng.base,.int .i64 m'.yng.limit,.slice A2' m'.yng.ws.length c2'] 35)
 have n2:=Bk.new w1 35 #[.int .i64 m'.old.base,.int .i64 m'.old.limit,.slice A1' m'.old.ws.length c1',.int .i64 m'.yng.base,.int .i64 m'.yng.limit,.slice A2' m'.yng.ws.length c2']
 have hm2:RM (w1.alloc (.cells #[.int .i64 m'.old.base,.int .i64 m'.old.limit,.slice A1' m'.old.ws.length c1',.int .i64 m'.yng.base,.int .i64 m'.yng.limit,.slice A2' m'.yng.ws.length c2'] 35)) m' A1' c1' A2' c2':=HM1.out.below ((Below.refl _ _).alloc (Nat.le_refl _) _)
 obtain⟨w2,hw2⟩:∃ w2,w1.alloc (.cells #[.int .i64 m'.old.base,.int .i64 m'.old.limit,.slice A1' m'.old.ws.length c1',.int .i64 m'.yng.base,.int .i64 m'.yng.limit,.slice A2' m'.yng.ws.length c2'] 35)=w2:=⟨_,rfl⟩
 rw[hw2] at hB2 b12 b22 b32 n2 hm2 ⊢
 have HB2:=lh hB2
 have HM2:=lh hm2
 have B12:=lh b12
 have B22:=lh b22
 have B32:=lh b32
 have N2:=lh n2
 have hn2:=n2.lt
 have hz2:=b32.lt
 have hr23:w.heap.size+1+1≠w.heap.size+1+1+1:=by omega
 clear hw2 hB2 b12 b22 b32 n2 hm2
 by_cases ha:a < 16777216
 ·have hyb:yb=false:=by cases yb;rfl;exact absurd ⟨ha,rfl⟩ hs
  subst hyb
  clear hs
  go_wp2_with fail
  refine(cY _).mono ?_
  rintro e w3 ⟨rfl,rfl⟩
  have k0:w2.cell? ⟨w1.heap.size,0,none⟩=some (.int .i64 m'.old.base):=N2.out.cell 0
  have k1:w2.cell? ⟨w1.heap.size,1,none⟩=some (.int .i64 m'.old.limit):=N2.out.cell 1
  have k2:w2.cell? ⟨w1.heap.size,2,none⟩=some (.slice A1' m'.old.ws.length c1'):=N2.out.cell 2
  have k3:w2.cell? ⟨w1.heap.size,3,none⟩=some (.int .i64 m'.yng.base):=N2.out.cell 3
  have k4:w2.cell? ⟨w1.heap.size,4,none⟩=some (.int .i64 m'.yng.limit):=N2.out.cell 4
  have k5:w2.cell? ⟨w1.heap.size,5,none⟩=some (.slice A2' m'.yng.ws.length c2'):=N2.out.cell 5
  have t0:w2.cell? ⟨w.heap.size+1,0,none⟩=some (.slice A cs.length c):=B12.out.cell 0
  have d0:w2.cell? ⟨w.heap.size+1+1,0,none⟩=some (.int .i64 0):=B22.out.cell 0
  have df0:w2.frozen? ⟨w.heap.size+1+1,0,none⟩=false:=B22.out.free 0
  have d1:w2.cell? ⟨w.heap.size+1+1,1,none⟩=some (.int .i64 0):=B22.out.cell 1
  have df1:w2.frozen? ⟨w.heap.size+1+1,1,none⟩=false:=B22.out.free 1
  have d2:w2.cell? ⟨w.heap.size+1+1,2,none⟩=some (.slice none 0 0):=B22.out.cell 2
  have df2:w2.frozen? ⟨w.heap.size+1+1,2,none⟩=false:=B22.out.free 2
  have d3:w2.cell? ⟨w.heap.size+1+1,3,none⟩=some (.int .i64 0):=B22.out.cell 3
  have df3:w2.frozen? ⟨w.heap.size+1+1,3,none⟩=false:=B22.out.free 3
  have d4:w2.cell? ⟨w.heap.size+1+1,4,none⟩=some (.int .i64 0):=B22.out.cell 4
  have df4:w2.frozen? ⟨w.heap.size+1+1,4,none⟩=false:=B22.out.free 4
  have d5:w2.cell? ⟨w.heap.size+1+1,5,none⟩=some (.slice none 0 0):=B22.out.cell 5
  have df5:w2.frozen? ⟨w.heap.size+1+1,5,none⟩=false:=B22.out.free 5
  have g0:w2.cell? ⟨w.heap.size+1+1+1,0,none⟩=some (.slice none 0 0):=B32.out.cell 0
  have gf0:w2.frozen? ⟨w.heap.size+1+1+1,0,none⟩=false:=B32.out.free 0
  go_wp2_with fail
  go_region
  go_wp2_with fail
  have oa:=HM2.out.o.away B22.out rfl
  have ya:=HM2.out.y.away B22.out rfl
  have ob:=HM2.out.o.away B32.out rfl
  have yb2:=HM2.out.y.away B32.out rfl
  have hle2:w.heap.size≤w.heap.size+1+1:=by omega
  have hle3:w.heap.size≤w.heap.size+1+1+1:=by omega
  have hbb:=(((((((HB2.out.setCell (p:=⟨w.heap.size+1+1,0,none⟩) hle2 (.int .i64 m'.old.base)).setCell (p:=⟨w.heap.size+1+1,1,none⟩) hle2 (.int .i64 m'.old.limit)).setCell (p:=⟨w.heap.size+1+1,2,none⟩) hle2 (.slice A1' m'.old.ws.length c1')).setCell (p:=⟨w.heap.size+1+1,3,none⟩) hle2 (.int .i64 m'.yng.base)).setCell (p:=⟨w.heap.size+1+1,4,none⟩) hle2 (.int .i64 m'.yng.limit)).setCell (p:=⟨w.heap.size+1+1,5,none⟩) hle2 (.slice A2' m'.yng.ws.length c2')).setCell (p:=⟨w.heap.size+1+1+1,0,none⟩) hle3 (.slice A cs.length c)).drew
  refine bodyPost_ret (v:=.tuple #[.agg #[.int .i64 m'.old.base,.int .i64 m'.old.limit,.slice A1' m'.old.ws.length c1',.int .i64 m'.yng.base,.int .i64 m'.yng.limit,.slice A2' m'.yng.ws.length c2'],.agg #[.slice A cs.length c],.int .i64 0]) (by simp[results,Tryz.results85,go_sem,d0,d1,d2,d3,d4,d5,g0,hr23]) rfl ?_
  exact⟨A1',c1',A2',c2',A,c,rfl,⟨(((((((HM2.out.o.setCell (p:=⟨w.heap.size+1+1,0,none⟩) oa (.int .i64 m'.old.base)).setCell (p:=⟨w.heap.size+1+1,1,none⟩) oa (.int .i64 m'.old.limit)).setCell (p:=⟨w.heap.size+1+1,2,none⟩) oa (.slice A1' m'.old.ws.length c1')).setCell (p:=⟨w.heap.size+1+1,3,none⟩) oa (.int .i64 m'.yng.base)).setCell (p:=⟨w.heap.size+1+1,4,none⟩) oa (.int .i64 m'.yng.limit)).setCell (p:=⟨w.heap.size+1+1,5,none⟩) oa (.slice A2' m'.yng.ws.length c2')).setCell (p:=⟨w.heap.size+1+1+1,0,none⟩) ob (.slice A cs.length c)).drew,(((((((HM2.out.y.setCell (p:=⟨w.heap.size+1+1,0,none⟩) ya (.int .i64 m'.old.base)).setCell (p:=⟨w.heap.size+1+1,1,none⟩) ya (.int .i64 m'.old.limit)).setCell (p:=⟨w.heap.size+1+1,2,none⟩) ya (.slice A1' m'.old.ws.length c1')).setCell (p:=⟨w.heap.size+1+1,3,none⟩) ya (.int .i64 m'.yng.base)).setCell (p:=⟨w.heap.size+1+1,4,none⟩) ya (.int .i64 m'.yng.limit)).setCell (p:=⟨w.heap.size+1+1,5,none⟩) ya (.slice A2' m'.yng.ws.length c2')).setCell (p:=⟨w.heap.size+1+1+1,0,none⟩) yb2 (.slice A cs.length c)).drew⟩,HR.out.below hbb,hbb,HNW.out.1,HNW.out.2,Nw.refl _ _⟩
 ·have ha':16777216≤a:=by omega
  clear hs ha
  have k0:w2.cell? ⟨w1.heap.size,0,none⟩=some (.int .i64 m'.old.base):=N2.out.cell 0
  have k1:w2.cell? ⟨w1.heap.size,1,none⟩=some (.int .i64 m'.old.limit):=N2.out.cell 1
  have k2:w2.cell? ⟨w1.heap.size,2,none⟩=some (.slice A1' m'.old.ws.length c1'):=N2.out.cell 2
  have k3:w2.cell? ⟨w1.heap.size,3,none⟩=some (.int .i64 m'.yng.base):=N2.out.cell 3
  have k4:w2.cell? ⟨w1.heap.size,4,none⟩=some (.int .i64 m'.yng.limit):=N2.out.cell 4
  have k5:w2.cell? ⟨w1.heap.size,5,none⟩=some (.slice A2' m'.yng.ws.length c2'):=N2.out.cell 5
  have t0:w2.cell? ⟨w.heap.size+1,0,none⟩=some (.slice A cs.length c):=B12.out.cell 0
  have d0:w2.cell? ⟨w.heap.size+1+1,0,none⟩=some (.int .i64 0):=B22.out.cell 0
  have df0:w2.frozen? ⟨w.heap.size+1+1,0,none⟩=false:=B22.out.free 0
  have d1:w2.cell? ⟨w.heap.size+1+1,1,none⟩=some (.int .i64 0):=B22.out.cell 1
  have df1:w2.frozen? ⟨w.heap.size+1+1,1,none⟩=false:=B22.out.free 1
  have d2:w2.cell? ⟨w.heap.size+1+1,2,none⟩=some (.slice none 0 0):=B22.out.cell 2
  have df2:w2.frozen? ⟨w.heap.size+1+1,2,none⟩=false:=B22.out.free 2
  have d3:w2.cell? ⟨w.heap.size+1+1,3,none⟩=some (.int .i64 0):=B22.out.cell 3
  have df3:w2.frozen? ⟨w.heap.size+1+1,3,none⟩=false:=B22.out.free 3
  have d4:w2.cell? ⟨w.heap.size+1+1,4,none⟩=some (.int .i64 0):=B22.out.cell 4
  have df4:w2.frozen? ⟨w.heap.size+1+1,4,none⟩=false:=B22.out.free 4
  have d5:w2.cell? ⟨w.heap.size+1+1,5,none⟩=some (.slice none 0 0):=B22.out.cell 5
  have df5:w2.frozen? ⟨w.heap.size+1+1,5,none⟩=false:=B22.out.free 5
  have g0:w2.cell? ⟨w.heap.size+1+1+1,0,none⟩=some (.slice none 0 0):=B32.out.cell 0
  have gf0:w2.frozen? ⟨w.heap.size+1+1+1,0,none⟩=false:=B32.out.free 0
  go_wp2_with fail
  go_region
  go_wp2_with fail
  have oa:=HM2.out.o.away B22.out rfl
  have ya:=HM2.out.y.away B22.out rfl
  have ob:=HM2.out.o.away B32.out rfl
  have yb2:=HM2.out.y.away B32.out rfl
  have hle2:w.heap.size≤w.heap.size+1+1:=by omega
  have hle3:w.heap.size≤w.heap.size+1+1+1:=by omega
  have hbb:=(((((((HB2.out.setCell (p:=⟨w.heap.size+1+1,0,none⟩) hle2 (.int .i64 m'.old.base)).setCell (p:=⟨w.heap.size+1+1,1,none⟩) hle2 (.int .i64 m'.old.limit)).setCell (p:=⟨w.heap.size+1+1,2,none⟩) hle2 (.slice A1' m'.old.ws.length c1')).setCell (p:=⟨w.heap.size+1+1,3,none⟩) hle2 (.int .i64 m'.yng.base)).setCell (p:=⟨w.heap.size+1+1,4,none⟩) hle2 (.int .i64 m'.yng.limit)).setCell (p:=⟨w.heap.size+1+1,5,none⟩) hle2 (.slice A2' m'.yng.ws.length c2')).setCell (p:=⟨w.heap.size+1+1+1,0,none⟩) hle3 (.slice A cs.length c)).drew
  refine bodyPost_ret (v:=.tuple #[.agg #[.int .i64 m'.old.base,.int .i64 m'.old.limit,.slice A1' m'.old.ws.length c1',.int .i64 m'.yng.base,.int .i64 m'.yng.limit,.slice A2' m'.yng.ws.length c2'],.agg #[.slice A cs.length c],.int .i64 0]) (by simp[results,Tryz.results85,go_sem,d0,d1,d2,d3,d4,d5,g0,hr23]) rfl ?_
  exact⟨A1',c1',A2',c2',A,c,rfl,⟨(((((((HM2.out.o.setCell (p:=⟨w.heap.size+1+1,0,none⟩) oa (.int .i64 m'.old.base)).setCell (p:=⟨w.heap.size+1+1,1,none⟩) oa (.int .i64 m'.old.limit)).setCell (p:=⟨w.heap.size+1+1,2,none⟩) oa (.slice A1' m'.old.ws.length c1')).setCell (p:=⟨w.heap.size+1+1,3,none⟩) oa (.int .i64 m'.yng.base)).setCell (p:=⟨w.heap.size+1+1,4,none⟩) oa (.int .i64 m'.yng.limit)).setCell (p:=⟨w.heap.size+1+1,5,none⟩) oa (.slice A2' m'.yng.ws.length c2')).setCell (p:=⟨w.heap.size+1+1+1,0,none⟩) ob (.slice A cs.length c)).drew,(((((((HM2.out.y.setCell (p:=⟨w.heap.size+1+1,0,none⟩) ya (.int .i64 m'.old.base)).setCell (p:=⟨w.heap.size+1+1,1,none⟩) ya (.int .i64 m'.old.limit)).setCell (p:=⟨w.heap.size+1+1,2,none⟩) ya (.slice A1' m'.old.ws.length c1')).setCell (p:=⟨w.heap.size+1+1,3,none⟩) ya (.int .i64 m'.yng.base)).setCell (p:=⟨w.heap.size+1+1,4,none⟩) ya (.int .i64 m'.yng.limit)).setCell (p:=⟨w.heap.size+1+1,5,none⟩) ya (.slice A2' m'.yng.ws.length c2')).setCell (p:=⟨w.heap.size+1+1+1,0,none⟩) yb2 (.slice A cs.length c)).drew⟩,HR.out.below hbb,hbb,HNW.out.1,HNW.out.2,Nw.refl _ _⟩
set_option maxHeartbeats 4000000 in
theorem RBst_mark (h:RM w m A1 c1 A2 c2) (hr:RC w cs A c) (a i:Int) {x:Int} (hx:U64 x) (ho:m.Ok) (he:m.fldE a i=0) (hl:cs.length≤100000) (hs:a < 16777216) (hy:ygW x=true):Calls Tryz.prog 85 #[rmV m A1 c1 A2 c2,.agg #[.slice A cs.length c],.int .i64 a,.int .i64 i,.int .u64 x] w (RBsP w A1 A2 A ((0,m.put (a+2+i) x,(cardMark cs (a+2+i)).2))):=by
 have HB0:Hid (Below w.heap.size w ((((w.alloc (.cells #[.int .i64 m.old.base,.int .i64 m.old.limit,.slice A1 m.old.ws.length c1,.int .i64 m.yng.base,.int .i64 m.yng.limit,.slice A2 m.yng.ws.length c2] 35)).alloc (.cells #[.slice A cs.length c] 37)).alloc (.cells #[.int .i64 0,.int .i64 0,.slice none 0 0,.int .i64 0,.int .i64 0,.slice none 0 0] 35)).alloc (.cells #[.slice none 0 0] 37))):=lh (((((Below.refl _ _).alloc (Nat.le_refl _) _).alloc (by simp) _).alloc (by simp;omega) _).alloc (by simp;omega) _)
 have B00:Hid (Bk ((((w.alloc (.cells #[.int .i64 m.old.base,.int .i64 m.old.limit,.slice A1 m.old.ws.length c1,.int .i64 m.yng.base,.int .i64 m.yng.limit,.slice A2 m.yng.ws.length c2] 35)).alloc (.cells #[.slice A cs.length c] 37)).alloc (.cells #[.int .i64 0,.int .i64 0,.slice none 0 0,.int .i64 0,.int .i64 0,.slice none 0 0] 35)).alloc (.cells #[.slice none 0 0] 37)) (w.heap.size) 35 #[.int .i64 m.old.base,.int .i64 m.old.limit,.slice A1 m.old.ws.length c1,.int .i64 m.yng.base,.int .i64 m.yng.limit,.slice A2 m.yng.ws.length c2]):=lh (((Bk.new _ _ _).alloc _).alloc _ |>.alloc _)
 have B10:Hid (Bk ((((w.alloc (.cells #[.int .i64 m.old.base,.int .i64 m.old.limit,.slice A1 m.old.ws.length c1,.int .i64 m.yng.base,.int .i64 m.yng.limit,.slice A2 m.yng.ws.length c2] 35)).alloc (.cells #[.slice A cs.length c] 37)).alloc (.cells #[.int .i64 0,.int .i64 0,.slice none 0 0,.int .i64 0,.int .i64 0,.slice none 0 0] 35)).alloc (.cells #[.slice none 0 0] 37)) (w.heap.size+1) 37 #[.slice A cs.length c]):=lh (((Bk.here _ _ _ (by simp)).alloc _).alloc _)
 have B20:Hid (Bk ((((w.alloc (.cells #[.int .i64 m.old.base,.int .i64 m.old.limit,.slice A1 m.old.ws.length c1,.int .i64 m.yng.base,.int .i64 m.yng.limit,.slice A2 m.yng.ws.length c2] 35)).alloc (.cells #[.slice A cs.length c] 37)).alloc (.cells #[.int .i64 0,.int .i64 0,.slice none 0 0,.int .i64 0,.int .i64 0,.slice none 0 0] 35)).alloc (.cells #[.slice none 0 0] 37)) (w.heap.size+1+1) 35 #[.int .i64 0,.int .i64 0,.slice none 0 0,.int .i64 0,.int .i64 0,.slice none 0 0]):=lh ((Bk.here _ _ _ (by simp)).alloc _)
 have B30:Hid (Bk ((((w.alloc (.cells #[.int .i64 m.old.base,.int .i64 m.old.limit,.slice A1 m.old.ws.length c1,.int .i64 m.yng.base,.int .i64 m.yng.limit,.slice A2 m.yng.ws.length c2] 35)).alloc (.cells #[.slice A cs.length c] 37)).alloc (.cells #[.int .i64 0,.int .i64 0,.slice none 0 0,.int .i64 0,.int .i64 0,.slice none 0 0] 35)).alloc (.cells #[.slice none 0 0] 37)) (w.heap.size+1+1+1) 37 #[.slice none 0 0]):=lh (Bk.here _ _ _ (by simp))
 have cS:=RSetField_any (h.below HB0.out) a i hx
 have H:=lh h
 have HR:=lh hr
 have HX:=lh hx
 rw[ho.setF_ok he] at cS
 obtain⟨ab0,ab1,ib0,ib1⟩:=Mm.fldE_bound h.o.ok h.y.ok he
 have cY:=fun w=>Young_any hx w
 obtain⟨m',hm'⟩:∃ m',m'=m.put (a+2+i) x:=⟨_,rfl⟩
 rw[← hm'] at cS ⊢
 unfold rmV at *
 clear h hr he hx hm' ho
 rw[hy] at cY
 clear hy
 obtain⟨ct,hct⟩:∃ ct,ct=(cardMark cs (a+2+i)).2:=⟨_,rfl⟩
 rw[← hct]
 have HCT:=lh hct
 clear hct
 go_enter Tryz.func85,Tryz.ntmps85
 go_wp2_with fail
 refine cS.mono ?_
 rintro e w1 ⟨A1',c1',A2',c2',rfl,hm1,hb,hn1,hn2⟩
 have HNW:=lh (And.intro (hn1.mono HB0.out.size) (hn2.mono HB0.out.size))
 clear hn1 hn2
 have HB1:=lh (HB0.out.trans (hb.mono HB0.out.size))
 have B01:=lh (B00.out.below hb B00.out.lt)
 have B11:=lh (B10.out.below hb B10.out.lt)
 have B21:=lh (B20.out.below hb B20.out.lt)
 have B31:=lh (B30.out.below hb B30.out.lt)
 have hz1:=B31.out.lt
 have HM1:=lh hm1
 unfold rmV
 clear hm1 hb
 go_upto_region 2 with fail
 have hB2:=HB1.out.alloc HB1.out.size (.cells #[.int .i64 m'.old.base,.int .i64 m'.old.limit,.slice A1' m'.old.ws.length c1',.int .i64 m'.yng.base,.int .i64 m'.yng.limit,.slice A2' m'.yng.ws.length c2'] 35)
 have b12:=B11.out.alloc (.cells #[.int .i64 m'.old.base,.int .i64 m'.old.limit,.slice A1' m'.old.ws.length c1',.int .i64 m'.yng.base,.int .i64 m'.yng.limit,.slice A2' m'.yng.ws.length c2'] 35)
 have b22:=B21.out.alloc (.cells #[.int .i64 m'.old.base,.int .i64 m'.old.limit,.slice A1' m'.old.ws.length c1',.int .i64 m'.yng.base,.int .i64 m'.yng.limit,.slice A2' m'.yng.ws.length c2'] 35)
 have b32:=B31.out.alloc (.cells #[.int .i64 m'.old.base,.int .i64 m'.old.limit,.slice A1' m'.old.ws.length c1',.int .i64 m'.yng.base,.int .i64 m'.yng.limit,.slice A2' m'.yng.ws.length c2'] 35)
 have n2:=Bk.new w1 35 #[.int .i64 m'.old.base,.int .i64 m'.old.limit,.slice A1' m'.old.ws.length c1',.int .i64 m'.yng.base,.int .i64 m'.yng.limit,.slice A2' m'.yng.ws.length c2']
 have hm2:RM (w1.alloc (.cells #[.int .i64 m'.old.base,.int .i64 m'.old.limit,.slice A1' m'.old.ws.length c1',.int .i64 m'.yng.base,.int .i64 m'.yng.limit,.slice A2' m'.yng.ws.length c2'] 35)) m' A1' c1' A2' c2':=HM1.out.below ((Below.refl _ _).alloc (Nat.le_refl _) _)
 obtain⟨w2,hw2⟩:∃ w2,w1.alloc (.cells #[.int .i64 m'.old.base,.int .i64 m'.old.limit,.slice A1' m'.old.ws.length c1',.int .i64 m'.yng.base,.int .i64 m'.yng.limit,.slice A2' m'.yng.ws.length c2'] 35)=w2:=⟨_,rfl⟩
 rw[hw2] at hB2 b12 b22 b32 n2 hm2 ⊢
 have HB2:=lh hB2
 have HM2:=lh hm2
 have B12:=lh b12
 have B22:=lh b22
 have B32:=lh b32
 have N2:=lh n2
 have hn2:=n2.lt
 have hz2:=b32.lt
 have hr23:w.heap.size+1+1≠w.heap.size+1+1+1:=by omega
 clear hw2 hB2 b12 b22 b32 n2 hm2
 have t0:w2.cell? ⟨w.heap.size+1,0,none⟩=some (.slice A cs.length c):=B12.out.cell 0
 have tf0:w2.frozen? ⟨w.heap.size+1,0,none⟩=false:=B12.out.free 0
 have cM:=RMark_rc (HR.out.below HB2.out) hl (a+2+i)
 go_wp2_with fail
 refine(cY _).mono ?_
 rintro e w3 ⟨rfl,rfl⟩
 go_wp2_with fail
 refine cM.mono ?_
 rintro e w4 ⟨A',c',rfl,hc4,hA4,hb⟩
 have HA4:=lh hA4
 have hsz:=HB2.out.size
 have HB4:=lh (HB2.out.trans (hb.mono HB2.out.size))
 have HM4:=lh (HM2.out.below hb)
 have HC4:=lh hc4
 have B14:=lh (B12.out.below hb B12.out.lt)
 have B24:=lh (B22.out.below hb B22.out.lt)
 have B34:=lh (B32.out.below hb B32.out.lt)
 have N4:=lh (N2.out.below hb N2.out.lt)
 rw[← HCT.out] at HC4 ⊢
 clear hc4 hb t0 tf0 hA4
 have t0:w4.cell? ⟨w.heap.size+1,0,none⟩=some (.slice A cs.length c):=B14.out.cell 0
 have tf0:w4.frozen? ⟨w.heap.size+1,0,none⟩=false:=B14.out.free 0
 go_upto_region 6 with fail
 have hB5:=HB4.out.setCell (p:=⟨w.heap.size+1,0,none⟩) (by simp) (.slice A' ct.length c')
 have o5:=HM4.out.o.setCell (p:=⟨w.heap.size+1,0,none⟩) (HM4.out.o.away B14.out rfl) (.slice A' ct.length c')
 have y5:=HM4.out.y.setCell (p:=⟨w.heap.size+1,0,none⟩) (HM4.out.y.away B14.out rfl) (.slice A' ct.length c')
 have b15:=B14.out.set 0 (.slice A' ct.length c')
 have b25:=B24.out.far (p:=⟨w.heap.size+1,0,none⟩) (show w.heap.size+1+1≠w.heap.size+1 by omega) (.slice A' ct.length c')
 have b35:=B34.out.far (p:=⟨w.heap.size+1,0,none⟩) (show w.heap.size+1+1+1≠w.heap.size+1 by omega) (.slice A' ct.length c')
 have n5:=N4.out.far (p:=⟨w.heap.size+1,0,none⟩) (show w1.heap.size≠w.heap.size+1 by omega) (.slice A' ct.length c')
 obtain⟨w5,hw5⟩:∃ w5,w4.setCell ⟨w.heap.size+1,0,none⟩ (.slice A' ct.length c')=w5:=⟨_,rfl⟩
 rw[hw5] at hB5 o5 y5 b15 b25 b35 n5 ⊢
 have hc5:RC w5 ct A' c':=by rw[← hw5];exact HC4.out.setCell (p:=⟨w.heap.size+1,0,none⟩) (HR.out.away HA4.out (by simp) (by show w.heap.size+1 < w2.heap.size;omega)) _
 have HB5:=lh hB5
 have O5:=lh o5
 have Y5:=lh y5
 have B25:=lh b25
 have B35:=lh b35
 have HC5:=lh hc5
 clear hw5 hB5 o5 y5 b25 b35 hc5 t0 tf0
 have k0:w5.cell? ⟨w1.heap.size,0,none⟩=some (.int .i64 m'.old.base):=n5.cell 0
 have k1:w5.cell? ⟨w1.heap.size,1,none⟩=some (.int .i64 m'.old.limit):=n5.cell 1
 have k2:w5.cell? ⟨w1.heap.size,2,none⟩=some (.slice A1' m'.old.ws.length c1'):=n5.cell 2
 have k3:w5.cell? ⟨w1.heap.size,3,none⟩=some (.int .i64 m'.yng.base):=n5.cell 3
 have k4:w5.cell? ⟨w1.heap.size,4,none⟩=some (.int .i64 m'.yng.limit):=n5.cell 4
 have k5:w5.cell? ⟨w1.heap.size,5,none⟩=some (.slice A2' m'.yng.ws.length c2'):=n5.cell 5
 have t0:w5.cell? ⟨w.heap.size+1,0,none⟩=some ((.slice A' ct.length c')):=b15.cell 0
 have d0:w5.cell? ⟨w.heap.size+1+1,0,none⟩=some (.int .i64 0):=B25.out.cell 0
 have df0:w5.frozen? ⟨w.heap.size+1+1,0,none⟩=false:=B25.out.free 0
 have d1:w5.cell? ⟨w.heap.size+1+1,1,none⟩=some (.int .i64 0):=B25.out.cell 1
 have df1:w5.frozen? ⟨w.heap.size+1+1,1,none⟩=false:=B25.out.free 1
 have d2:w5.cell? ⟨w.heap.size+1+1,2,none⟩=some (.slice none 0 0):=B25.out.cell 2
 have df2:w5.frozen? ⟨w.heap.size+1+1,2,none⟩=false:=B25.out.free 2
 have d3:w5.cell? ⟨w.heap.size+1+1,3,none⟩=some (.int .i64 0):=B25.out.cell 3
 have df3:w5.frozen? ⟨w.heap.size+1+1,3,none⟩=false:=B25.out.free 3
 have d4:w5.cell? ⟨w.heap.size+1+1,4,none⟩=some (.int .i64 0):=B25.out.cell 4
 have df4:w5.frozen? ⟨w.heap.size+1+1,4,none⟩=false:=B25.out.free 4
 have d5:w5.cell? ⟨w.heap.size+1+1,5,none⟩=some (.slice none 0 0):=B25.out.cell 5
 have df5:w5.frozen? ⟨w.heap.size+1+1,5,none⟩=false:=B25.out.free 5
 have g0:w5.cell? ⟨w.heap.size+1+1+1,0,none⟩=some (.slice none 0 0):=B35.out.cell 0
 have gf0:w5.frozen? ⟨w.heap.size+1+1+1,0,none⟩=false:=B35.out.free 0
 clear n5 b15
 go_wp2_with fail
 go_region
 go_wp2_with fail
 have oa:=O5.out.away B25.out rfl
 have ya:=Y5.out.away B25.out rfl
 have ob:=O5.out.away B35.out rfl
 have yb2:=Y5.out.away B35.out rfl
 have ca:Away A' ct.length (w.heap.size+1+1):=HR.out.away HA4.out (by omega) (by omega)
 have cb:Away A' ct.length (w.heap.size+1+1+1):=HR.out.away HA4.out (by omega) (by omega)
 have hle2:w.heap.size≤w.heap.size+1+1:=by omega
 have hle3:w.heap.size≤w.heap.size+1+1+1:=by omega
 have hbb:=(((((((HB5.out.setCell (p:=⟨w.heap.size+1+1,0,none⟩) hle2 (.int .i64 m'.old.base)).setCell (p:=⟨w.heap.size+1+1,1,none⟩) hle2 (.int .i64 m'.old.limit)).setCell (p:=⟨w.heap.size+1+1,2,none⟩) hle2 (.slice A1' m'.old.ws.length c1')).setCell (p:=⟨w.heap.size+1+1,3,none⟩) hle2 (.int .i64 m'.yng.base)).setCell (p:=⟨w.heap.size+1+1,4,none⟩) hle2 (.int .i64 m'.yng.limit)).setCell (p:=⟨w.heap.size+1+1,5,none⟩) hle2 (.slice A2' m'.yng.ws.length c2')).setCell (p:=⟨w.heap.size+1+1+1,0,none⟩) hle3 ((.slice A' ct.length c'))).drew
 refine bodyPost_ret (v:=.tuple #[.agg #[.int .i64 m'.old.base,.int .i64 m'.old.limit,.slice A1' m'.old.ws.length c1',.int .i64 m'.yng.base,.int .i64 m'.yng.limit,.slice A2' m'.yng.ws.length c2'],.agg #[(.slice A' ct.length c')],.int .i64 0]) (by simp[results,Tryz.results85,go_sem,d0,d1,d2,d3,d4,d5,g0,hr23]) rfl ?_
 exact⟨A1',c1',A2',c2',A',c',rfl,⟨(((((((O5.out.setCell (p:=⟨w.heap.size+1+1,0,none⟩) oa (.int .i64 m'.old.base)).setCell (p:=⟨w.heap.size+1+1,1,none⟩) oa (.int .i64 m'.old.limit)).setCell (p:=⟨w.heap.size+1+1,2,none⟩) oa (.slice A1' m'.old.ws.length c1')).setCell (p:=⟨w.heap.size+1+1,3,none⟩) oa (.int .i64 m'.yng.base)).setCell (p:=⟨w.heap.size+1+1,4,none⟩) oa (.int .i64 m'.yng.limit)).setCell (p:=⟨w.heap.size+1+1,5,none⟩) oa (.slice A2' m'.yng.ws.length c2')).setCell (p:=⟨w.heap.size+1+1+1,0,none⟩) ob ((.slice A' ct.length c'))).drew,(((((((Y5.out.setCell (p:=⟨w.heap.size+1+1,0,none⟩) ya (.int .i64 m'.old.base)).setCell (p:=⟨w.heap.size+1+1,1,none⟩) ya (.int .i64 m'.old.limit)).setCell (p:=⟨w.heap.size+1+1,2,none⟩) ya (.slice A1' m'.old.ws.length c1')).setCell (p:=⟨w.heap.size+1+1,3,none⟩) ya (.int .i64 m'.yng.base)).setCell (p:=⟨w.heap.size+1+1,4,none⟩) ya (.int .i64 m'.yng.limit)).setCell (p:=⟨w.heap.size+1+1,5,none⟩) ya (.slice A2' m'.yng.ws.length c2')).setCell (p:=⟨w.heap.size+1+1+1,0,none⟩) yb2 ((.slice A' ct.length c'))).drew⟩,(((((((HC5.out.setCell (p:=⟨w.heap.size+1+1,0,none⟩) ca (.int .i64 m'.old.base)).setCell (p:=⟨w.heap.size+1+1,1,none⟩) ca (.int .i64 m'.old.limit)).setCell (p:=⟨w.heap.size+1+1,2,none⟩) ca (.slice A1' m'.old.ws.length c1')).setCell (p:=⟨w.heap.size+1+1,3,none⟩) ca (.int .i64 m'.yng.base)).setCell (p:=⟨w.heap.size+1+1,4,none⟩) ca (.int .i64 m'.yng.limit)).setCell (p:=⟨w.heap.size+1+1,5,none⟩) ca (.slice A2' m'.yng.ws.length c2')).setCell (p:=⟨w.heap.size+1+1+1,0,none⟩) cb ((.slice A' ct.length c'))).drew,hbb,HNW.out.1,HNW.out.2,Nw.mono HA4.out (Nat.le_trans HB2.out.size (Nat.le_refl _))⟩
theorem RBst_any (h:RM w m A1 c1 A2 c2) (hr:RC w cs A c) (ho:m.Ok) (hl:cs.length≤100000) (a i:Int) {x:Int} (hx:U64 x):Calls Tryz.prog 85 #[rmV m A1 c1 A2 c2,.agg #[.slice A cs.length c],.int .i64 a,.int .i64 i,.int .u64 x] w (RBsP w A1 A2 A (bst m cs a i x)):=by
 unfold bst
 by_cases he:m.fldE a i=0
 ·rw[if_neg (by simp[he])]
  obtain⟨h1,h2,h3,h4⟩:=Mm.fldE_ok he
  have hv:=Mm.hdr_valid h1
  have h5:=(wH_ge hv).2
  have h6:=(ho.has_near h1 (j:=2+i) (by omega) (by omega))
  have h7:=Mm.hdr_has h1
  have ho2:m.old.has a=true↔a < 16777216:=by
   constructor
   ·intro h;exact(ho.old_lt h).2
   ·intro h
    cases hh:m.old.has a with
    | true=>rfl
    | false =>
     unfold Mm.has Mm.sp at h7
     rw[if_neg (by rw[hh];simp)] at h7
     have:=ho.yng_ge h7
     omega
  by_cases hs:a < 16777216∧ygW x=true
  ·rw[if_pos ⟨ho2.2 hs.1,hs.2⟩]
   have hm:(cardMark cs (a+2+i)).1=0:=by
    have h8:(m.sp a).has (a+(2+i))=true:=by rw[← h6.2];exact h6.1
    unfold Mm.sp at h8
    rw[if_pos (ho2.2 hs.1)] at h8
    have h9:=ho.old_lt h8
    have h10:oldB (a+2+i)=true:=(oldB_iff _).2 (by omega)
    unfold cardMark
    rw[if_neg (by rw[h10];simp)]
    split <;> rfl
   rw[hm]
   exact RBst_mark h hr a i hx ho he hl hs.1 hs.2
  ·rw[if_neg (fun h=>hs ⟨ho2.1 h.1,h.2⟩)]
   exact RBst_skip h hr a i hx ho he hs
 ·rw[if_pos he]
  exact RBst_no h hr a i hx he
end
end
end Go.Proofs.YtaijmgkjbbiboaaGreat
