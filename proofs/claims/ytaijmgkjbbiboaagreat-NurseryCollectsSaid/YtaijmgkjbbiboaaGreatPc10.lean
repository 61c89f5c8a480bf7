/- Parts of the proof: RAlloc. -/
import Derived.Test.YtaijmgkjbbiboaaGreatPcA
import Derived.Test.YtaijmgkjbbiboaaGreatPc9
set_option linter.unusedVariables false
set_option linter.unusedSimpArgs false
set_option linter.unusedSectionVars false
set_option maxRecDepth 100000
namespace Go.Proofs.YtaijmgkjbbiboaaGreat
section
open Go.RowKit Go.Sort
def RAlP (w:World) (A0:Option Addr) (r:Int × Spc × Int) (e:Ending) (w':World):Prop:=∃ A c,e=.returned (.tuple #[rsV r.2.1 A c,.int .i64 r.2.2,.int .i64 r.1])∧RS w' r.2.1 A c∧Below w.heap.size w w'∧Nw w.heap.size A0 A
section
variable {w:World} {s:Spc} {A:Option Addr} {c:Nat}
set_option maxHeartbeats 4000000 in
theorem RAlloc_bh (h:RS w s A c) (hd:Hdr) (i:Id) (hv:vH hd=false):Calls Tryz.prog 115 #[rsV s A c,hd.val,i.val] w (RAlP w A ((1,s,0))):=by
 have HB0:Hid (Below w.heap.size w ((((w.alloc (.cells #[.int .i64 s.base,.int .i64 s.limit,.slice A s.ws.length c] 33)).alloc (.cells #[.int .i64 hd.k,.int .i64 hd.c,.int .i64 hd.f] 58)).alloc (.cells #[.int .i64 i.m,.int .i64 i.s] 65)).alloc (.cells #[.int .i64 0,.int .i64 0,.slice none 0 0] 33))):=lh (((((Below.refl _ _).alloc (Nat.le_refl _) _).alloc (by simp) _).alloc (by simp;omega) _).alloc (by simp;omega) _)
 have B00:Hid (Bk ((((w.alloc (.cells #[.int .i64 s.base,.int .i64 s.limit,.slice A s.ws.length c] 33)).alloc (.cells #[.int .i64 hd.k,.int .i64 hd.c,.int .i64 hd.f] 58)).alloc (.cells #[.int .i64 i.m,.int .i64 i.s] 65)).alloc (.cells #[.int .i64 0,.int .i64 0,.slice none 0 0] 33)) (w.heap.size) 33 #[.int .i64 s.base,.int .i64 s.limit,.slice A s.ws.length c]):=lh (((Bk.new _ _ _).alloc _).alloc _ |>.alloc _)
 have B10:Hid (Bk ((((w.alloc (.cells #[.int .i64 s.base,.int .i64 s.limit,.slice A s.ws.length c] 33)).alloc (.cells #[.int .i64 hd.k,.int .i64 hd.c,.int .i64 hd.f] 58)).alloc (.cells #[.int .i64 i.m,.int .i64 i.s] 65)).alloc (.cells #[.int .i64 0,.int .i64 0,.slice none 0 0] 33)) (w.heap.size+1) 58 #[.int .i64 hd.k,.int .i64 hd.c,.int .i64 hd.f]):=lh (((Bk.here _ _ _ (by simp)).alloc _).alloc _)
 have B20:Hid (Bk ((((w.alloc (.cells #[.int .i64 s.base,.int .i64 s.limit,.slice A s.ws.length c] 33)).alloc (.cells #[.int .i64 hd.k,.int .i64 hd.c,.int .i64 hd.f] 58)).alloc (.cells #[.int .i64 i.m,.int .i64 i.s] 65)).alloc (.cells #[.int .i64 0,.int .i64 0,.slice none 0 0] 33)) (w.heap.size+1+1) 65 #[.int .i64 i.m,.int .i64 i.s]):=lh ((Bk.here _ _ _ (by simp)).alloc _)
 have B30:Hid (Bk ((((w.alloc (.cells #[.int .i64 s.base,.int .i64 s.limit,.slice A s.ws.length c] 33)).alloc (.cells #[.int .i64 hd.k,.int .i64 hd.c,.int .i64 hd.f] 58)).alloc (.cells #[.int .i64 i.m,.int .i64 i.s] 65)).alloc (.cells #[.int .i64 0,.int .i64 0,.slice none 0 0] 33)) (w.heap.size+1+1+1) 33 #[.int .i64 0,.int .i64 0,.slice none 0 0]):=lh (Bk.here _ _ _ (by simp))
 have cE:=fun w=>REncode_any hd w
 have cI:=fun w=>REncodeID_any i w
 unfold encV at cE
 unfold encIV at cI
 simp only[hv,Bool.false_eq_true,if_false,if_true] at cE cI
 obtain⟨q1,q2,cI⟩:∃ q1 q2:Int,∀ w,Calls Tryz.prog 126 #[i.val] w fun e w'=>e=.returned (.tuple #[.int .u64 q1,.int .i64 q2])∧Below w.heap.size w w':=by
  have cI:=fun w=>REncodeID_any i w
  unfold encIV at cI
  split at cI
  ·exact⟨_,_,cI⟩
  ·exact⟨_,_,cI⟩
 unfold Hdr.val Id.val rsV at *
 have H:=lh h
 clear h hv
 go_enter Tryz.func115,Tryz.ntmps115
 go_wp2_with fail
 refine(cE _).mono ?_
 rintro e w1 ⟨rfl,hb⟩
 have HB1:=lh (HB0.out.trans (hb.mono HB0.out.size))
 have B01:=lh (B00.out.below hb B00.out.lt)
 have B21:=lh (B20.out.below hb B20.out.lt)
 have B31:=lh (B30.out.below hb B30.out.lt)
 clear hb
 have i0:w1.cell? ⟨w.heap.size+1+1,0,none⟩=some (.int .i64 i.m):=B21.out.cell 0
 have i1:w1.cell? ⟨w.heap.size+1+1,1,none⟩=some (.int .i64 i.s):=B21.out.cell 1
 go_wp2_with fail
 refine(cI _).mono ?_
 rintro e w2 ⟨rfl,hb⟩
 have HB2:=lh (HB1.out.trans (hb.mono HB1.out.size))
 have B02:=lh (B01.out.below hb B01.out.lt)
 have B32:=lh (B31.out.below hb B31.out.lt)
 clear hb
 clear i0 i1
 have k0:w2.cell? ⟨w.heap.size,0,none⟩=some (.int .i64 s.base):=B02.out.cell 0
 have k1:w2.cell? ⟨w.heap.size,1,none⟩=some (.int .i64 s.limit):=B02.out.cell 1
 have k2:w2.cell? ⟨w.heap.size,2,none⟩=some (.slice A s.ws.length c):=B02.out.cell 2
 have d0:w2.cell? ⟨w.heap.size+1+1+1,0,none⟩=some (.int .i64 0):=B32.out.cell 0
 have df0:w2.frozen? ⟨w.heap.size+1+1+1,0,none⟩=false:=B32.out.free 0
 have d1:w2.cell? ⟨w.heap.size+1+1+1,1,none⟩=some (.int .i64 0):=B32.out.cell 1
 have df1:w2.frozen? ⟨w.heap.size+1+1+1,1,none⟩=false:=B32.out.free 1
 have d2:w2.cell? ⟨w.heap.size+1+1+1,2,none⟩=some (.slice none 0 0):=B32.out.cell 2
 have df2:w2.frozen? ⟨w.heap.size+1+1+1,2,none⟩=false:=B32.out.free 2
 go_wp2_with fail
 have hbb:=below_set3 (g:=w.heap.size+1+1+1) HB2.out (by omega) (.int .i64 s.base) (.int .i64 s.limit) (.slice A s.ws.length c)
 exact bodyPost_ret (v:=.tuple #[.agg #[.int .i64 s.base,.int .i64 s.limit,.slice A s.ws.length c],.int .i64 0,.int .i64 1]) (by simp[results,Tryz.results115,go_sem,d0,d1,d2]) rfl ⟨A,c,rfl,H.out.below hbb,hbb,Nw.refl _ _⟩
set_option maxHeartbeats 4000000 in
theorem RAlloc_bi (h:RS w s A c) (hd:Hdr) (i:Id) (hv:vH hd=true) (hi:vI i=false):Calls Tryz.prog 115 #[rsV s A c,hd.val,i.val] w (RAlP w A ((1,s,0))):=by
 have HB0:Hid (Below w.heap.size w ((((w.alloc (.cells #[.int .i64 s.base,.int .i64 s.limit,.slice A s.ws.length c] 33)).alloc (.cells #[.int .i64 hd.k,.int .i64 hd.c,.int .i64 hd.f] 58)).alloc (.cells #[.int .i64 i.m,.int .i64 i.s] 65)).alloc (.cells #[.int .i64 0,.int .i64 0,.slice none 0 0] 33))):=lh (((((Below.refl _ _).alloc (Nat.le_refl _) _).alloc (by simp) _).alloc (by simp;omega) _).alloc (by simp;omega) _)
 have B00:Hid (Bk ((((w.alloc (.cells #[.int .i64 s.base,.int .i64 s.limit,.slice A s.ws.length c] 33)).alloc (.cells #[.int .i64 hd.k,.int .i64 hd.c,.int .i64 hd.f] 58)).alloc (.cells #[.int .i64 i.m,.int .i64 i.s] 65)).alloc (.cells #[.int .i64 0,.int .i64 0,.slice none 0 0] 33)) (w.heap.size) 33 #[.int .i64 s.base,.int .i64 s.limit,.slice A s.ws.length c]):=lh (((Bk.new _ _ _).alloc _).alloc _ |>.alloc _)
 have B10:Hid (Bk ((((w.alloc (.cells #[.int .i64 s.base,.int .i64 s.limit,.slice A s.ws.length c] 33)).alloc (.cells #[.int .i64 hd.k,.int .i64 hd.c,.int .i64 hd.f] 58)).alloc (.cells #[.int .i64 i.m,.int .i64 i.s] 65)).alloc (.cells #[.int .i64 0,.int .i64 0,.slice none 0 0] 33)) (w.heap.size+1) 58 #[.int .i64 hd.k,.int .i64 hd.c,.int .i64 hd.f]):=lh (((Bk.here _ _ _ (by simp)).alloc _).alloc _)
 have B20:Hid (Bk ((((w.alloc (.cells #[.int .i64 s.base,.int .i64 s.limit,.slice A s.ws.length c] 33)).alloc (.cells #[.int .i64 hd.k,.int .i64 hd.c,.int .i64 hd.f] 58)).alloc (.cells #[.int .i64 i.m,.int .i64 i.s] 65)).alloc (.cells #[.int .i64 0,.int .i64 0,.slice none 0 0] 33)) (w.heap.size+1+1) 65 #[.int .i64 i.m,.int .i64 i.s]):=lh ((Bk.here _ _ _ (by simp)).alloc _)
 have B30:Hid (Bk ((((w.alloc (.cells #[.int .i64 s.base,.int .i64 s.limit,.slice A s.ws.length c] 33)).alloc (.cells #[.int .i64 hd.k,.int .i64 hd.c,.int .i64 hd.f] 58)).alloc (.cells #[.int .i64 i.m,.int .i64 i.s] 65)).alloc (.cells #[.int .i64 0,.int .i64 0,.slice none 0 0] 33)) (w.heap.size+1+1+1) 33 #[.int .i64 0,.int .i64 0,.slice none 0 0]):=lh (Bk.here _ _ _ (by simp))
 have cE:=fun w=>REncode_any hd w
 have cI:=fun w=>REncodeID_any i w
 unfold encV at cE
 unfold encIV at cI
 simp only[hv,hi,Bool.false_eq_true,if_false,if_true] at cE cI
 unfold Hdr.val Id.val rsV at *
 have H:=lh h
 clear h hv hi
 go_enter Tryz.func115,Tryz.ntmps115
 go_wp2_with fail
 refine(cE _).mono ?_
 rintro e w1 ⟨rfl,hb⟩
 have HB1:=lh (HB0.out.trans (hb.mono HB0.out.size))
 have B01:=lh (B00.out.below hb B00.out.lt)
 have B21:=lh (B20.out.below hb B20.out.lt)
 have B31:=lh (B30.out.below hb B30.out.lt)
 clear hb
 have i0:w1.cell? ⟨w.heap.size+1+1,0,none⟩=some (.int .i64 i.m):=B21.out.cell 0
 have i1:w1.cell? ⟨w.heap.size+1+1,1,none⟩=some (.int .i64 i.s):=B21.out.cell 1
 go_wp2_with fail
 refine(cI _).mono ?_
 rintro e w2 ⟨rfl,hb⟩
 have HB2:=lh (HB1.out.trans (hb.mono HB1.out.size))
 have B02:=lh (B01.out.below hb B01.out.lt)
 have B32:=lh (B31.out.below hb B31.out.lt)
 clear hb
 clear i0 i1
 have k0:w2.cell? ⟨w.heap.size,0,none⟩=some (.int .i64 s.base):=B02.out.cell 0
 have k1:w2.cell? ⟨w.heap.size,1,none⟩=some (.int .i64 s.limit):=B02.out.cell 1
 have k2:w2.cell? ⟨w.heap.size,2,none⟩=some (.slice A s.ws.length c):=B02.out.cell 2
 have d0:w2.cell? ⟨w.heap.size+1+1+1,0,none⟩=some (.int .i64 0):=B32.out.cell 0
 have df0:w2.frozen? ⟨w.heap.size+1+1+1,0,none⟩=false:=B32.out.free 0
 have d1:w2.cell? ⟨w.heap.size+1+1+1,1,none⟩=some (.int .i64 0):=B32.out.cell 1
 have df1:w2.frozen? ⟨w.heap.size+1+1+1,1,none⟩=false:=B32.out.free 1
 have d2:w2.cell? ⟨w.heap.size+1+1+1,2,none⟩=some (.slice none 0 0):=B32.out.cell 2
 have df2:w2.frozen? ⟨w.heap.size+1+1+1,2,none⟩=false:=B32.out.free 2
 go_wp2_with fail
 have hbb:=below_set3 (g:=w.heap.size+1+1+1) HB2.out (by omega) (.int .i64 s.base) (.int .i64 s.limit) (.slice A s.ws.length c)
 exact bodyPost_ret (v:=.tuple #[.agg #[.int .i64 s.base,.int .i64 s.limit,.slice A s.ws.length c],.int .i64 0,.int .i64 1]) (by simp[results,Tryz.results115,go_sem,d0,d1,d2]) rfl ⟨A,c,rfl,H.out.below hbb,hbb,Nw.refl _ _⟩
set_option maxHeartbeats 4000000 in
theorem RAlloc_big (h:RS w s A c) (hd:Hdr) (i:Id) (hv:vH hd=true) (hi:vI i=true) (hlg:s.limit - s.top < wH hd):Calls Tryz.prog 115 #[rsV s A c,hd.val,i.val] w (RAlP w A ((8,s,0))):=by
 have HB0:Hid (Below w.heap.size w ((((w.alloc (.cells #[.int .i64 s.base,.int .i64 s.limit,.slice A s.ws.length c] 33)).alloc (.cells #[.int .i64 hd.k,.int .i64 hd.c,.int .i64 hd.f] 58)).alloc (.cells #[.int .i64 i.m,.int .i64 i.s] 65)).alloc (.cells #[.int .i64 0,.int .i64 0,.slice none 0 0] 33))):=lh (((((Below.refl _ _).alloc (Nat.le_refl _) _).alloc (by simp) _).alloc (by simp;omega) _).alloc (by simp;omega) _)
 have B00:Hid (Bk ((((w.alloc (.cells #[.int .i64 s.base,.int .i64 s.limit,.slice A s.ws.length c] 33)).alloc (.cells #[.int .i64 hd.k,.int .i64 hd.c,.int .i64 hd.f] 58)).alloc (.cells #[.int .i64 i.m,.int .i64 i.s] 65)).alloc (.cells #[.int .i64 0,.int .i64 0,.slice none 0 0] 33)) (w.heap.size) 33 #[.int .i64 s.base,.int .i64 s.limit,.slice A s.ws.length c]):=lh (((Bk.new _ _ _).alloc _).alloc _ |>.alloc _)
 have B10:Hid (Bk ((((w.alloc (.cells #[.int .i64 s.base,.int .i64 s.limit,.slice A s.ws.length c] 33)).alloc (.cells #[.int .i64 hd.k,.int .i64 hd.c,.int .i64 hd.f] 58)).alloc (.cells #[.int .i64 i.m,.int .i64 i.s] 65)).alloc (.cells #[.int .i64 0,.int .i64 0,.slice none 0 0] 33)) (w.heap.size+1) 58 #[.int .i64 hd.k,.int .i64 hd.c,.int .i64 hd.f]):=lh (((Bk.here _ _ _ (by simp)).alloc _).alloc _)
 have B20:Hid (Bk ((((w.alloc (.cells #[.int .i64 s.base,.int .i64 s.limit,.slice A s.ws.length c] 33)).alloc (.cells #[.int .i64 hd.k,.int .i64 hd.c,.int .i64 hd.f] 58)).alloc (.cells #[.int .i64 i.m,.int .i64 i.s] 65)).alloc (.cells #[.int .i64 0,.int .i64 0,.slice none 0 0] 33)) (w.heap.size+1+1) 65 #[.int .i64 i.m,.int .i64 i.s]):=lh ((Bk.here _ _ _ (by simp)).alloc _)
 have B30:Hid (Bk ((((w.alloc (.cells #[.int .i64 s.base,.int .i64 s.limit,.slice A s.ws.length c] 33)).alloc (.cells #[.int .i64 hd.k,.int .i64 hd.c,.int .i64 hd.f] 58)).alloc (.cells #[.int .i64 i.m,.int .i64 i.s] 65)).alloc (.cells #[.int .i64 0,.int .i64 0,.slice none 0 0] 33)) (w.heap.size+1+1+1) 33 #[.int .i64 0,.int .i64 0,.slice none 0 0]):=lh (Bk.here _ _ _ (by simp))
 have cW:=fun w=>RWords_of hd w
 have b0:=h.b0
 have b1:=h.lim
 have b2:=h.l0
 have bw:=wH_bound hd
 have cE:=fun w=>REncode_any hd w
 have cI:=fun w=>REncodeID_any i w
 unfold encV at cE
 unfold encIV at cI
 simp only[hv,hi,Bool.false_eq_true,if_false,if_true] at cE cI
 unfold Spc.top at hlg
 unfold Hdr.val Id.val rsV at *
 have H:=lh h
 clear h hv hi
 go_enter Tryz.func115,Tryz.ntmps115
 go_wp2_with fail
 refine(cE _).mono ?_
 rintro e w1 ⟨rfl,hb⟩
 have HB1:=lh (HB0.out.trans (hb.mono HB0.out.size))
 have B01:=lh (B00.out.below hb B00.out.lt)
 have B11:=lh (B10.out.below hb B10.out.lt)
 have B21:=lh (B20.out.below hb B20.out.lt)
 have B31:=lh (B30.out.below hb B30.out.lt)
 clear hb
 have i0:w1.cell? ⟨w.heap.size+1+1,0,none⟩=some (.int .i64 i.m):=B21.out.cell 0
 have i1:w1.cell? ⟨w.heap.size+1+1,1,none⟩=some (.int .i64 i.s):=B21.out.cell 1
 go_wp2_with fail
 refine(cI _).mono ?_
 rintro e w2 ⟨rfl,hb⟩
 have HB2:=lh (HB1.out.trans (hb.mono HB1.out.size))
 have B02:=lh (B01.out.below hb B01.out.lt)
 have B12:=lh (B11.out.below hb B11.out.lt)
 have B32:=lh (B31.out.below hb B31.out.lt)
 clear hb
 clear i0 i1
 have h0:w2.cell? ⟨w.heap.size+1,0,none⟩=some (.int .i64 hd.k):=B12.out.cell 0
 have h1:w2.cell? ⟨w.heap.size+1,1,none⟩=some (.int .i64 hd.c):=B12.out.cell 1
 have h2:w2.cell? ⟨w.heap.size+1,2,none⟩=some (.int .i64 hd.f):=B12.out.cell 2
 go_wp2_with fail
 refine(cW _).mono ?_
 rintro e w3 ⟨rfl,hb⟩
 have HB3:=lh (HB2.out.trans (hb.mono HB2.out.size))
 have B03:=lh (B02.out.below hb B02.out.lt)
 have B33:=lh (B32.out.below hb B32.out.lt)
 clear hb
 clear h0 h1 h2
 have k0:w3.cell? ⟨w.heap.size,0,none⟩=some (.int .i64 s.base):=B03.out.cell 0
 have k1:w3.cell? ⟨w.heap.size,1,none⟩=some (.int .i64 s.limit):=B03.out.cell 1
 have k2:w3.cell? ⟨w.heap.size,2,none⟩=some (.slice A s.ws.length c):=B03.out.cell 2
 have cT:=fun dd os=>Calls.regrown_of (RTop_any (H.out.below (HB3.out.trans ((below_regrown w3 dd os).mono HB3.out.size))))
 unfold Spc.top rsV at cT
 have hwr:IntKind.i64.wrap (s.limit - (s.base+(s.ws.length:Int)))=s.limit - (s.base+(s.ws.length:Int)):=IntWalk.i64_in _ (by omega)
 have q0:=fun dd os=>cell_regrown k0 dd os
 have q1:=fun dd os=>cell_regrown k1 dd os
 have q2:=fun dd os=>cell_regrown k2 dd os
 go_wp2_with fail
 refine wp_region_quiet_below (by kernel_rfl) (by kernel_rfl) ?_
 repeat (quiet_step (first | with_reducible exact cT _ _))
 refine wpQuiet_nil ?_
 intro w4 hw'
 have hb:=quiet_below_one hw'
 have HB4:=lh (HB3.out.trans (hb.mono HB3.out.size))
 have B04:=lh (B03.out.below hb B03.out.lt)
 have B34:=lh (B33.out.below hb B33.out.lt)
 clear hwr hw' hb cT q0 q1 q2 k0 k1 k2
 have k0:w4.cell? ⟨w.heap.size,0,none⟩=some (.int .i64 s.base):=B04.out.cell 0
 have k1:w4.cell? ⟨w.heap.size,1,none⟩=some (.int .i64 s.limit):=B04.out.cell 1
 have k2:w4.cell? ⟨w.heap.size,2,none⟩=some (.slice A s.ws.length c):=B04.out.cell 2
 have d0:w4.cell? ⟨w.heap.size+1+1+1,0,none⟩=some (.int .i64 0):=B34.out.cell 0
 have df0:w4.frozen? ⟨w.heap.size+1+1+1,0,none⟩=false:=B34.out.free 0
 have d1:w4.cell? ⟨w.heap.size+1+1+1,1,none⟩=some (.int .i64 0):=B34.out.cell 1
 have df1:w4.frozen? ⟨w.heap.size+1+1+1,1,none⟩=false:=B34.out.free 1
 have d2:w4.cell? ⟨w.heap.size+1+1+1,2,none⟩=some (.slice none 0 0):=B34.out.cell 2
 have df2:w4.frozen? ⟨w.heap.size+1+1+1,2,none⟩=false:=B34.out.free 2
 go_wp2_with fail
 have hbb:=below_set3 (g:=w.heap.size+1+1+1) HB4.out (by omega) (.int .i64 s.base) (.int .i64 s.limit) (.slice A s.ws.length c)
 exact bodyPost_ret (v:=.tuple #[.agg #[.int .i64 s.base,.int .i64 s.limit,.slice A s.ws.length c],.int .i64 0,.int .i64 8]) (by simp[results,Tryz.results115,go_sem,d0,d1,d2]) rfl ⟨A,c,rfl,H.out.below hbb,hbb,Nw.refl _ _⟩
set_option maxHeartbeats 4000000 in
theorem RAlloc_ok (h:RS w s A c) (hd:Hdr) (i:Id) (hv:vH hd=true) (hi:vI i=true) (hlg:wH hd≤s.limit - s.top):Calls Tryz.prog 115 #[rsV s A c,hd.val,i.val] w (RAlP w A ((0,{ s with ws:=s.ws++([eH hd,eI i]++List.replicate (wH hd - 2).toNat 0) },s.top))):=by
 have HB0:Hid (Below w.heap.size w ((((w.alloc (.cells #[.int .i64 s.base,.int .i64 s.limit,.slice A s.ws.length c] 33)).alloc (.cells #[.int .i64 hd.k,.int .i64 hd.c,.int .i64 hd.f] 58)).alloc (.cells #[.int .i64 i.m,.int .i64 i.s] 65)).alloc (.cells #[.int .i64 0,.int .i64 0,.slice none 0 0] 33))):=lh (((((Below.refl _ _).alloc (Nat.le_refl _) _).alloc (by simp) _).alloc (by simp;omega) _).alloc (by simp;omega) _)
 have B00:Hid (Bk ((((w.alloc (.cells #[.int .i64 s.base,.int .i64 s.limit,.slice A s.ws.length c] 33)).alloc (.cells #[.int .i64 hd.k,.int .i64 hd.c,.int .i64 hd.f] 58)).alloc (.cells #[.int .i64 i.m,.int .i64 i.s] 65)).alloc (.cells #[.int .i64 0,.int .i64 0,.slice none 0 0] 33)) (w.heap.size) 33 #[.int .i64 s.base,.int .i64 s.limit,.slice A s.ws.length c]):=lh (((Bk.new _ _ _).alloc _).alloc _ |>.alloc _)
 have B10:Hid (Bk ((((w.alloc (.cells #[.int .i64 s.base,.int .i64 s.limit,.slice A s.ws.length c] 33)).alloc (.cells #[.int .i64 hd.k,.int .i64 hd.c,.int .i64 hd.f] 58)).alloc (.cells #[.int .i64 i.m,.int .i64 i.s] 65)).alloc (.cells #[.int .i64 0,.int .i64 0,.slice none 0 0] 33)) (w.heap.size+1) 58 #[.int .i64 hd.k,.int .i64 hd.c,.int .i64 hd.f]):=lh (((Bk.here _ _ _ (by simp)).alloc _).alloc _)
 have B20:Hid (Bk ((((w.alloc (.cells #[.int .i64 s.base,.int .i64 s.limit,.slice A s.ws.length c] 33)).alloc (.cells #[.int .i64 hd.k,.int .i64 hd.c,.int .i64 hd.f] 58)).alloc (.cells #[.int .i64 i.m,.int .i64 i.s] 65)).alloc (.cells #[.int .i64 0,.int .i64 0,.slice none 0 0] 33)) (w.heap.size+1+1) 65 #[.int .i64 i.m,.int .i64 i.s]):=lh ((Bk.here _ _ _ (by simp)).alloc _)
 have B30:Hid (Bk ((((w.alloc (.cells #[.int .i64 s.base,.int .i64 s.limit,.slice A s.ws.length c] 33)).alloc (.cells #[.int .i64 hd.k,.int .i64 hd.c,.int .i64 hd.f] 58)).alloc (.cells #[.int .i64 i.m,.int .i64 i.s] 65)).alloc (.cells #[.int .i64 0,.int .i64 0,.slice none 0 0] 33)) (w.heap.size+1+1+1) 33 #[.int .i64 0,.int .i64 0,.slice none 0 0]):=lh (Bk.here _ _ _ (by simp))
 have cW:=fun w=>RWords_of hd w
 have b0:=h.b0
 have b1:=h.lim
 have b2:=h.l0
 have bw:=wH_bound hd
 have cE:=fun w=>REncode_any hd w
 have cI:=fun w=>REncodeID_any i w
 unfold encV at cE
 unfold encIV at cI
 simp only[hv,hi,Bool.false_eq_true,if_false,if_true] at cE cI
 have bw4:=(wH_ge hv).1
 have HV:=lh hv
 have HI:=lh hi
 unfold Spc.top at hlg
 unfold Spc.top
 obtain⟨i9,hi9,hj0,hj1,hj2⟩:=info_parts i_u64
 have HQ:=lh (And.intro hi9 (And.intro hj0 (And.intro hj1 hj2)))
 have hcap:=lh h.cap
 clear hi9 hj0 hj1 hj2
 obtain⟨n,hn⟩:=Int.eq_ofNat_of_zero_le bw.1
 have bw1:=bw.2
 rw[hn] at hlg bw1 bw4 ⊢
 simp only[hn] at cW
 have htn:((n:Int) - 2).toNat=n - 2:=by omega
 rw[htn]
 clear htn bw hn
 unfold Hdr.val Id.val rsV at *
 have H:=lh h
 clear h hv hi
 go_enter Tryz.func115,Tryz.ntmps115
 go_wp2_with fail
 refine(cE _).mono ?_
 rintro e w1 ⟨rfl,hb⟩
 have HB1:=lh (HB0.out.trans (hb.mono HB0.out.size))
 have B01:=lh (B00.out.below hb B00.out.lt)
 have B11:=lh (B10.out.below hb B10.out.lt)
 have B21:=lh (B20.out.below hb B20.out.lt)
 have B31:=lh (B30.out.below hb B30.out.lt)
 clear hb
 have i0:w1.cell? ⟨w.heap.size+1+1,0,none⟩=some (.int .i64 i.m):=B21.out.cell 0
 have i1:w1.cell? ⟨w.heap.size+1+1,1,none⟩=some (.int .i64 i.s):=B21.out.cell 1
 go_wp2_with fail
 refine(cI _).mono ?_
 rintro e w2 ⟨rfl,hb⟩
 have HB2:=lh (HB1.out.trans (hb.mono HB1.out.size))
 have B02:=lh (B01.out.below hb B01.out.lt)
 have B12:=lh (B11.out.below hb B11.out.lt)
 have B32:=lh (B31.out.below hb B31.out.lt)
 clear hb
 clear i0 i1
 have h0:w2.cell? ⟨w.heap.size+1,0,none⟩=some (.int .i64 hd.k):=B12.out.cell 0
 have h1:w2.cell? ⟨w.heap.size+1,1,none⟩=some (.int .i64 hd.c):=B12.out.cell 1
 have h2:w2.cell? ⟨w.heap.size+1,2,none⟩=some (.int .i64 hd.f):=B12.out.cell 2
 go_wp2_with fail
 refine(cW _).mono ?_
 rintro e w3 ⟨rfl,hb⟩
 have HB3:=lh (HB2.out.trans (hb.mono HB2.out.size))
 have B03:=lh (B02.out.below hb B02.out.lt)
 have B33:=lh (B32.out.below hb B32.out.lt)
 clear hb
 clear h0 h1 h2
 have k0:w3.cell? ⟨w.heap.size,0,none⟩=some (.int .i64 s.base):=B03.out.cell 0
 have k1:w3.cell? ⟨w.heap.size,1,none⟩=some (.int .i64 s.limit):=B03.out.cell 1
 have k2:w3.cell? ⟨w.heap.size,2,none⟩=some (.slice A s.ws.length c):=B03.out.cell 2
 have cT:=fun dd os=>Calls.regrown_of (RTop_any (H.out.below (HB3.out.trans ((below_regrown w3 dd os).mono HB3.out.size))))
 unfold Spc.top rsV at cT
 have hwr:IntKind.i64.wrap (s.limit - (s.base+(s.ws.length:Int)))=s.limit - (s.base+(s.ws.length:Int)):=IntWalk.i64_in _ (by omega)
 have q0:=fun dd os=>cell_regrown k0 dd os
 have q1:=fun dd os=>cell_regrown k1 dd os
 have q2:=fun dd os=>cell_regrown k2 dd os
 go_wp2_with fail
 refine wp_region_quiet_below (by kernel_rfl) (by kernel_rfl) ?_
 repeat (quiet_step (first | with_reducible exact cT _ _))
 refine wpQuiet_nil ?_
 intro w4 hw'
 have hb:=quiet_below_one hw'
 have HB4:=lh (HB3.out.trans (hb.mono HB3.out.size))
 have B04:=lh (B03.out.below hb B03.out.lt)
 have B34:=lh (B33.out.below hb B33.out.lt)
 clear hwr hw' hb cT q0 q1 q2 k0 k1 k2
 have k0:w4.cell? ⟨w.heap.size,0,none⟩=some (.int .i64 s.base):=B04.out.cell 0
 have k1:w4.cell? ⟨w.heap.size,1,none⟩=some (.int .i64 s.limit):=B04.out.cell 1
 have k2:w4.cell? ⟨w.heap.size,2,none⟩=some (.slice A s.ws.length c):=B04.out.cell 2
 have cT2:=RTop_any (H.out.below HB4.out)
 unfold Spc.top rsV at cT2
 go_wp2_with fail
 refine cT2.mono ?_
 rintro e w5 ⟨rfl,hb⟩
 have HB5:=lh (HB4.out.trans (hb.mono HB4.out.size))
 have B05:=lh (B04.out.below hb B04.out.lt)
 have B35:=lh (B34.out.below hb B34.out.lt)
 clear hb cT2 k0 k1 k2
 have k2:w5.cell? ⟨w.heap.size,2,none⟩=some (.slice A s.ws.length c):=B05.out.cell 2
 have hz5:w.heap.size < w5.heap.size:=B05.out.lt
 have hz5':w.heap.size≠w5.heap.size:=by omega
 have HW5:=lh (H.out.below HB5.out)
 obtain⟨tok,htok⟩:∃ tok:Nat,tok=0:=⟨0,rfl⟩
 go_upto_region 10 with (first | (at_builtin;refine wpList_app rfl (.tmp 46) (.tmp 48) 31 rfl Tryz.underlying31 HQ.out.1 HQ.out.2.1 HQ.out.2.2.1 HQ.out.2.2.2 rfl (by decide) (v:=.slice (some ⟨w5.heap.size,0,none⟩) 0 0) (n:=0) (xs:=[]) (base:=w5.heap.size) rfl (ownEmpty 1 (Bk.new _ _ _) (Nat.le_refl _)) (A:=A) (m:=s.ws.length) (c:=c) (news:=wds s.ws) rfl (HW5.out.sl.below ((Below.refl _ _).alloc (Nat.le_refl _) _)) (wds_one _) (by unfold maxLen;omega) (by omega) (by simp) ?_;intro v6 w6 hown6 hgr6 h46;simp only[Nat.zero_add,List.nil_append] at hown6;obtain⟨A6,c6,rfl,hle6⟩:=own_shape hown6;have HO6:=lh hown6;have HG6:=lh hgr6;have hs6:=hgr6.size;clear hown6 hgr6 h46) | (at_builtin;refine wpList_app rfl (.tmp 49) (.tmp 52) 31 rfl Tryz.underlying31 HQ.out.1 HQ.out.2.1 HQ.out.2.2.1 HQ.out.2.2.2 rfl (by decide) (v:=.slice A6 s.ws.length c6) (n:=s.ws.length) (xs:=wds s.ws) (base:=w5.heap.size) rfl (HO6.out.alloc _) (A:=some ⟨w6.heap.size,0,none⟩) (m:=2) (c:=2) (news:=[.int .u64 (eH hd),.int .u64 (eI i)]) rfl (Sl.new w6 54 [.int .u64 (eH hd),.int .u64 (eI i)]) (by simp[Value.oneCell']) (by unfold maxLen;omega) (by omega) (by simp at hs6 ⊢;omega) ?_;intro v7 w7 hown7 hgr7 h47;have HO7:=lh hown7;have HG7:=lh hgr7;clear hown7 hgr7 h47))
 go_wp2_with fail
 obtain⟨ws2,hws2⟩:∃ ws2:Nat→List Int,ws2=fun k=>s.ws++([eH hd,eI i]++List.replicate (k - 2) 0):=⟨_,rfl⟩
 have hstep:Hid (∀ k,2≤k→wds (ws2 (k+1))=wds (ws2 k)++[.int .u64 0]):=lh fun k hk=>by
  subst hws2
  simp only[wds]
  rw[show k+1 - 2=(k - 2)+1 by omega,List.replicate_succ']
  simp
 have hstart:Hid (wds s.ws++[.int .u64 (eH hd),.int .u64 (eI i)]=wds (ws2 2)):=lh (by subst hws2;simp[wds])
 have hws3:=lh hws2
 clear hws2
 have hbel:Below w5.heap.size w5 w7:=by
  have h1:Below w5.heap.size (w5.alloc (.cells #[] 54)) w6:=(Below.refl _ _).grown HG6.out (by simp) (fun k hk=>by simp[Value.ownBlock] at hk;omega)
  have h2:Below w5.heap.size w5 w6:=((Below.refl w5.heap.size w5).alloc (Nat.le_refl _) _).trans h1
  have h3:=h2.alloc h2.size (.cells #[.int .u64 (eH hd),.int .u64 (eI i)] 54)
  exact h3.grown HG7.out h3.size (fun k hk=>(HO6.out.lt k hk).1)
 have HBL:=lh hbel
 clear hbel
 go_loopw [15,16] (fun v j wr=>∃ k:Nat,2≤k∧k≤n∧j=.int .i64 (k:Int)∧wr.ownsRow w5.heap.size 54 1 v (s.ws.length+k) (wds (ws2 k))∧Below w5.heap.size w5 wr) (fun _ j _=>n - (intOf j).toNat)
 case atStart=>exact⟨2,by omega,by omega,rfl,by rw[← hstart.out];exact HO7.out,HBL.out⟩
 case round =>
  obtain⟨k,hk2,hkn,rfl,hown,hbw⟩:=hrel
  have HO:=lh hown
  have HBW:=lh hbw
  have hszw:=hbw.size
  clear hown hbw
  by_cases hlt:k < n
  ·have hltI:(k:Int) < (n:Int):=by omega
   go_wp2_with (at_builtin;refine wpList_app rfl (.tmp 59) (.tmp 60) 31 rfl Tryz.underlying31 HQ.out.1 HQ.out.2.1 HQ.out.2.2.1 HQ.out.2.2.2 rfl (by decide) (n:=s.ws.length+k) (xs:=wds (ws2 k)) (base:=w5.heap.size) rfl (HO.out.alloc _) (A:=some ⟨wr.heap.size,0,none⟩) (m:=1) (c:=1) (news:=[.int .u64 0]) rfl (Sl.new wr 54 [.int .u64 0]) (by simp[Value.oneCell']) (by unfold maxLen;omega) (by omega) (by simp;omega) ?_;intro v8 w8 hown8 hgr8 h48;have HO8:=lh hown8;have HG8:=lh hgr8;clear hown8 hgr8 h48)
   go_roundw
   case rel =>
    refine⟨k+1,by omega,by omega,by go_num,?_,?_⟩
    ·rw[hstep.out k hk2]
     exact HO8.out
    ·have h3:=HBW.out.alloc HBW.out.size (.cells #[.int .u64 0] 54)
     exact h3.grown HG8.out h3.size (fun j hj=>(HO.out.lt j hj).1)
   case measure=>simp[intOf];omega
  ·obtain rfl:k=n:=by omega
   obtain⟨A9,c9,rfl,hle9⟩:=own_shape HO.out
   have HBR:=lh (HB5.out.trans (HBW.out.mono HB5.out.size))
   have B0r:=lh (B05.out.below HBW.out B05.out.lt)
   have B3r:=lh (B35.out.below HBW.out B35.out.lt)
   have hneA:∀ g,g < w5.heap.size→(Value.slice A9 (s.ws.length+k) c9).ownBlock≠some g:=fun g hg e=>by have:=(HO.out.lt g e).1;omega
   have HNA:=lh hneA
   have hz3:=B35.out.lt
   have hzz:w.heap.size+1+1+1≠w.heap.size:=by omega
   have r2:wr.cell? ⟨w.heap.size,2,none⟩=some (.slice A s.ws.length c):=B0r.out.cell 2
   have rf2:wr.frozen? ⟨w.heap.size,2,none⟩=false:=B0r.out.free 2
   clear hneA
   go_upto_region 15 with fail
   have hbx:=HBR.out.setCell (p:=⟨w.heap.size,2,none⟩) (Nat.le_refl _) (.slice A9 (s.ws.length+k) c9)
   have b0x:=B0r.out.set 2 (.slice A9 (s.ws.length+k) c9)
   have b3x:=B3r.out.far (p:=⟨w.heap.size,2,none⟩) hzz (.slice A9 (s.ws.length+k) c9)
   have hox:(wr.setCell ⟨w.heap.size,2,none⟩ (.slice A9 (s.ws.length+k) c9)).ownsRow w5.heap.size 54 1 (.slice A9 (s.ws.length+k) c9) (s.ws.length+k) (wds (ws2 k)):=own_local HO.out fun g hg=>Below.heap_setCell _ _ _ _ fun e=>HNA.out g (by rw[e];exact hz5) hg
   obtain⟨wx,hwx⟩:∃ wx,wr.setCell ⟨w.heap.size,2,none⟩ (.slice A9 (s.ws.length+k) c9)=wx:=⟨_,rfl⟩
   rw[hwx] at hbx b0x b3x hox ⊢
   have HBX:=lh hbx
   have HOX:=lh hox
   have HNW:Hid (Nw w.heap.size A A9):=lh (Nw.mono (Nw.own hox) (by omega))
   have y0:wx.cell? ⟨w.heap.size,0,none⟩=some (.int .i64 s.base):=b0x.cell 0
   have y1:wx.cell? ⟨w.heap.size,1,none⟩=some (.int .i64 s.limit):=b0x.cell 1
   have y2:wx.cell? ⟨w.heap.size,2,none⟩=some (.slice A9 (s.ws.length+k) c9):=b0x.cell 2
   have d0:wx.cell? ⟨w.heap.size+1+1+1,0,none⟩=some (.int .i64 0):=b3x.cell 0
   have d1:wx.cell? ⟨w.heap.size+1+1+1,1,none⟩=some (.int .i64 0):=b3x.cell 1
   have d2:wx.cell? ⟨w.heap.size+1+1+1,2,none⟩=some (.slice none 0 0):=b3x.cell 2
   have df0:wx.frozen? ⟨w.heap.size+1+1+1,0,none⟩=false:=b3x.free 0
   have df1:wx.frozen? ⟨w.heap.size+1+1+1,1,none⟩=false:=b3x.free 1
   have df2:wx.frozen? ⟨w.heap.size+1+1+1,2,none⟩=false:=b3x.free 2
   clear hwx hbx b0x b3x hox r2 rf2
   go_wp2_with fail
   have hlen:(ws2 k).length=s.ws.length+k:=by rw[hws3.out];simp;omega
   have hbb:=below_set3 (g:=w.heap.size+1+1+1) HBX.out (by omega) (.int .i64 s.base) (.int .i64 s.limit) (.slice A9 (s.ws.length+k) c9)
   have hws4:=hws3.out
   have hoF:((((wx.setCell ⟨w.heap.size+1+1+1,0,none⟩ (.int .i64 s.base)).setCell ⟨w.heap.size+1+1+1,1,none⟩ (.int .i64 s.limit)).setCell ⟨w.heap.size+1+1+1,2,none⟩ (.slice A9 (s.ws.length+k) c9))).ownsRow w5.heap.size 54 1 (.slice A9 (s.ws.length+k) c9) (s.ws.length+k) (wds (ws2 k)) :=
    own_local (own_local (own_local HOX.out fun g hg=>Below.heap_setCell _ _ _ _ fun e=>HNA.out g (by rw[e];exact hz3) hg) fun g hg=>Below.heap_setCell _ _ _ _ fun e=>HNA.out g (by rw[e];exact hz3) hg) fun g hg=>Below.heap_setCell _ _ _ _ fun e=>HNA.out g (by rw[e];exact hz3) hg
   refine bodyPost_ret (v:=.tuple #[.agg #[.int .i64 s.base,.int .i64 s.limit,.slice A9 (s.ws.length+k) c9],.int .i64 (s.base+s.ws.length),.int .i64 0]) (by simp[results,Tryz.results115,go_sem,d0,d1,d2]) rfl ⟨A9,c9,?_,⟨?_,?_,?_,H.out.b0,?_,H.out.l0,fun b o e=>(hoF.lt b (by rw[e];rfl)).2⟩,hbb,HNW.out⟩
   ·have hq:(s.ws++eH hd::eI i::List.replicate (k - 2) 0).length=s.ws.length+k:=by simp;omega
    unfold rsV
    simp only[hq]
   ·show Sl _ 1 A9 (s.ws++([eH hd,eI i]++List.replicate (k - 2) 0)).length (wds (s.ws++([eH hd,eI i]++List.replicate (k - 2) 0)))
    rw[show s.ws++([eH hd,eI i]++List.replicate (k - 2) 0)=ws2 k from (congrFun hws4 k).symm,hlen]
    exact own_sl hoF
   ·show(s.ws++([eH hd,eI i]++List.replicate (k - 2) 0)).length≤c9
    rw[show s.ws++([eH hd,eI i]++List.replicate (k - 2) 0)=ws2 k from (congrFun hws4 k).symm,hlen]
    exact hle9
   ·intro x hx
    change x∈s.ws++([eH hd,eI i]++List.replicate (k - 2) 0) at hx
    rcases List.mem_append.1 hx with h | h
    ·exact H.out.u x h
    ·rcases List.mem_append.1 h with h | h
     ·rcases List.mem_cons.1 h with h | h
      ·rw[h];exact eH_u64 HV.out
      ·rw[List.mem_singleton.1 h];exact eI_u64 HI.out
     ·rw[List.eq_of_mem_replicate h];exact⟨by decide,by decide⟩
   ·show s.base+((s.ws++([eH hd,eI i]++List.replicate (k - 2) 0)).length:Int)≤s.limit
    rw[show s.ws++([eH hd,eI i]++List.replicate (k - 2) 0)=ws2 k from (congrFun hws4 k).symm,hlen]
    push_cast
    omega
theorem RAlloc_any (h:RS w s A c) (hd:Hdr) (i:Id):Calls Tryz.prog 115 #[rsV s A c,hd.val,i.val] w (RAlP w A (s.alloc hd i)):=by
 unfold Spc.alloc
 cases hv:vH hd with
 | false=>rw[if_pos (.inl rfl)];exact RAlloc_bh h hd i hv
 | true =>
  cases hi:vI i with
  | false=>rw[if_pos (.inr rfl)];exact RAlloc_bi h hd i hv hi
  | true =>
   rw[if_neg (by simp)]
   by_cases hl:s.limit - s.top < wH hd
   ·rw[if_pos hl];exact RAlloc_big h hd i hv hi hl
   ·rw[if_neg hl];exact RAlloc_ok h hd i hv hi (by omega)
end
end
end Go.Proofs.YtaijmgkjbbiboaaGreat
