/- Parts of the proof: Hdr. -/
import Derived.Test.YtaijmgkjbbiboaaGreatPcA
import Derived.Test.YtaijmgkjbbiboaaGreatPc0
set_option linter.unusedVariables false
set_option linter.unusedSimpArgs false
set_option linter.unusedSectionVars false
set_option maxRecDepth 100000
namespace Go.Proofs.YtaijmgkjbbiboaaGreat
section
open Go.RowKit Go.Sort
def wtB (h:Hdr):Bool:=decide (0≤h.c∧h.c≤60∧0≤h.f∧h.f≤30)
/-- what each kind asks -/
def kB (h:Hdr):Nat→Bool
 | 0 | 1=>decide (0 < h.c) && wtB h
 | 2=>decide (h.c=0∧h.f=1)
 | _=>wtB h
theorem vH_kinds (h:Hdr):vH h=(decide (0≤h.k∧h.k < 5) && kB h h.k.toNat):=by
 rw[Bool.eq_iff_iff,vH_iff,Bool.and_eq_true,decide_eq_true_iff]
 obtain⟨k,c,f⟩:=h
 simp only
 constructor
 ·intro hh
  have hk:k=0 ∨ k=1 ∨ k=2 ∨ k=3 ∨ k=4:=by omega
  rcases hk with rfl | rfl | rfl | rfl | rfl <;> simp[kB,wtB] <;> omega
 ·rintro⟨h1,h2⟩
  have hk:k=0 ∨ k=1 ∨ k=2 ∨ k=3 ∨ k=4:=by omega
  rcases hk with rfl | rfl | rfl | rfl | rfl <;> simp[kB,wtB] at h2 <;> omega
theorem boxH (w:World) (h:Hdr):Below w.heap.size w (w.alloc (.cells #[.int .i64 h.k,.int .i64 h.c,.int .i64 h.f] 58)):=(Below.refl _ _).alloc (Nat.le_refl _) _
theorem within_any (h:Hdr) (w:World):Calls Tryz.prog 130 #[h.val] w fun e w'=>e=.returned (.bool (wtB h))∧Below w.heap.size w w':=by
 have HB:=lh (boxH w h)
 obtain⟨k,c,f⟩:=h
 unfold Hdr.val
 simp only at HB ⊢
 by_cases g1:c < 0
 ·skip
  have hk:Hid (wtB ⟨k,c,f⟩=false):=lh (decide_eq_false (by simp only;omega))
  go_enter Tryz.func130,Tryz.ntmps130
  go_wp2_with fail
  go_ret
  exact⟨ret_bool hk.out.symm,HB.out⟩
 by_cases g2:60 < c
 ·have g1:0≤c:=by omega
  have hk:Hid (wtB ⟨k,c,f⟩=false):=lh (decide_eq_false (by simp only;omega))
  go_enter Tryz.func130,Tryz.ntmps130
  go_wp2_with fail
  go_ret
  exact⟨ret_bool hk.out.symm,HB.out⟩
 by_cases g3:f < 0
 ·have g1:0≤c:=by omega
  have g2:c≤60:=by omega
  have hk:Hid (wtB ⟨k,c,f⟩=false):=lh (decide_eq_false (by simp only;omega))
  go_enter Tryz.func130,Tryz.ntmps130
  go_wp2_with fail
  go_ret
  exact⟨ret_bool hk.out.symm,HB.out⟩
 by_cases g4:30 < f
 ·have g1:0≤c:=by omega
  have g2:c≤60:=by omega
  have g3:0≤f:=by omega
  have hk:Hid (wtB ⟨k,c,f⟩=decide (f≤30)):=lh (by rw[decide_eq_false (show ¬ f≤30 by omega)];exact decide_eq_false (by simp only;omega))
  go_enter Tryz.func130,Tryz.ntmps130
  go_wp2_with fail
  go_ret
  exact⟨ret_bool hk.out.symm,HB.out⟩
 have g1:0≤c:=by omega
 have g2:c≤60:=by omega
 have g3:0≤f:=by omega
 have g4:f≤30:=by omega
 have hk:Hid (wtB ⟨k,c,f⟩=true):=lh (decide_eq_true (by simp only;omega))
 go_enter Tryz.func130,Tryz.ntmps130
 go_wp2_with fail
 go_ret
 exact⟨ret_bool hk.out.symm,HB.out⟩
theorem kind0_any (h:Hdr) (w:World):Calls Tryz.prog 129 #[h.val] w fun e w'=>e=.returned (.bool (kB h 0))∧Below w.heap.size w w':=by
 have HB:=lh (boxH w h)
 have cW:=within_any h (w.alloc (.cells #[.int .i64 h.k,.int .i64 h.c,.int .i64 h.f] 58))
 have HK:Hid (kB h 0=(decide (0 < h.c) && wtB h)):=lh rfl
 obtain⟨b,hb⟩:∃ b,b=wtB h:=⟨_,rfl⟩
 rw[← hb] at cW HK
 obtain⟨k,c,f⟩:=h
 unfold Hdr.val at cW ⊢
 simp only at HB HK cW ⊢
 clear hb
 by_cases g1:0 < c
 ·have HK2:Hid (kB ⟨k,c,f⟩ 0=b):=lh (by rw[HK.out,decide_eq_true g1];rfl)
  go_enter Tryz.func129,Tryz.ntmps129
  go_wp2_with fail
  refine cW.mono ?_
  rintro e w' ⟨rfl,hb'⟩
  have HB2:=lh (HB.out.trans (hb'.mono HB.out.size))
  clear hb'
  go_wp2_with fail
  go_ret
  exact⟨ret_bool HK2.out.symm,HB2.out⟩
 ·have HK2:Hid (kB ⟨k,c,f⟩ 0=false):=lh (by rw[HK.out,decide_eq_false g1];rfl)
  have g2:c≤0:=by omega
  go_enter Tryz.func129,Tryz.ntmps129
  go_wp2_with fail
  go_ret
  exact⟨ret_bool HK2.out.symm,HB.out⟩
theorem kind1_any (h:Hdr) (w:World):Calls Tryz.prog 131 #[h.val] w fun e w'=>e=.returned (.bool (kB h 1))∧Below w.heap.size w w':=by
 have HB:=lh (boxH w h)
 have cW:=within_any h (w.alloc (.cells #[.int .i64 h.k,.int .i64 h.c,.int .i64 h.f] 58))
 have HK:Hid (kB h 1=(decide (0 < h.c) && wtB h)):=lh rfl
 obtain⟨b,hb⟩:∃ b,b=wtB h:=⟨_,rfl⟩
 rw[← hb] at cW HK
 obtain⟨k,c,f⟩:=h
 unfold Hdr.val at cW ⊢
 simp only at HB HK cW ⊢
 clear hb
 by_cases g1:0 < c
 ·have HK2:Hid (kB ⟨k,c,f⟩ 1=b):=lh (by rw[HK.out,decide_eq_true g1];rfl)
  go_enter Tryz.func131,Tryz.ntmps131
  go_wp2_with fail
  refine cW.mono ?_
  rintro e w' ⟨rfl,hb'⟩
  have HB2:=lh (HB.out.trans (hb'.mono HB.out.size))
  clear hb'
  go_wp2_with fail
  go_ret
  exact⟨ret_bool HK2.out.symm,HB2.out⟩
 ·have HK2:Hid (kB ⟨k,c,f⟩ 1=false):=lh (by rw[HK.out,decide_eq_false g1];rfl)
  have g2:c≤0:=by omega
  go_enter Tryz.func131,Tryz.ntmps131
  go_wp2_with fail
  go_ret
  exact⟨ret_bool HK2.out.symm,HB.out⟩
theorem kind2_any (h:Hdr) (w:World):Calls Tryz.prog 132 #[h.val] w fun e w'=>e=.returned (.bool (kB h 2))∧Below w.heap.size w w':=by
 have HB:=lh (boxH w h)
 obtain⟨k,c,f⟩:=h
 unfold Hdr.val
 simp only at HB ⊢
 by_cases g1:c=0
 ·subst g1
  by_cases g2:f=1
  ·subst g2
   have hk:Hid (kB ⟨k,0,1⟩ 2=true):=lh rfl
   go_enter Tryz.func132,Tryz.ntmps132
   go_wp2_with fail
   go_ret
   exact⟨ret_bool hk.out.symm,HB.out⟩
  ·have hk:Hid (kB ⟨k,0,f⟩ 2=false):=lh (decide_eq_false (by simp only;omega))
   have g3:(f == 1)=false:=by simpa using g2
   clear g2
   go_enter Tryz.func132,Tryz.ntmps132
   go_wp2_with fail
   go_ret
   exact⟨ret_bool hk.out.symm,HB.out⟩
 ·have hk:Hid (kB ⟨k,c,f⟩ 2=false):=lh (decide_eq_false (by simp only;omega))
  have g3:(c == 0)=false:=by simpa using g1
  clear g1
  go_enter Tryz.func132,Tryz.ntmps132
  go_wp2_with fail
  go_ret
  exact⟨ret_bool hk.out.symm,HB.out⟩
theorem setRowAlloc (w:World) (old cs:Array Value) (t:TypeId) (fr:Nat × Nat):(w.alloc (.cells old t fr)).setRow w.heap.size cs=w.alloc (.cells cs t fr):=by
 cases w with
 | mk heap tape drawn os output =>
  simp only[World.setRow,World.alloc]
  congr 1
  apply Array.ext
  ·simp
  ·intro i h1 h2
   simp only[Array.getElem_modify,Array.getElem_push]
   by_cases hi:i < heap.size
   ·simp[hi];omega
   ·have:i=heap.size:=by simp at h2;omega
    simp[this]
def kindCells:Array Value:=#[.string ⟨#[114,101,99,111,114,100]⟩,.func (.func 129) #[] #[],.string ⟨#[97,99,116,111,114]⟩,.func (.func 131) #[] #[],.string ⟨#[119,101,97,107]⟩,.func (.func 132) #[] #[],.string ⟨#[115,116,117,98]⟩,.func (.func 130) #[] #[],.string ⟨#[102,111,114,119,97,114,100]⟩,.func (.func 130) #[] #[]]
set_option maxHeartbeats 1000000 in
theorem kinds_any (w:World):Calls Tryz.prog 122 #[] w fun e w'=>e=.returned (.agg kindCells)∧Below w.heap.size w w':=by
 go_enter Tryz.func122,Tryz.ntmps122
 go_wp2_with (first | (refine wpList_build rfl _ _ rfl (by kernel_rfl) ?_) | (refine wpList_store_row rfl _ _ _ rfl w.heap.size kindCells (by kernel_rfl) (by kernel_rfl) _ _ (heap_alloc_new w _) (by kernel_rfl) (by kernel_rfl) (by kernel_rfl) ?_))
 refine bodyPost_ret (v:=.agg kindCells) (results_cell_row rfl _ _ w.heap.size _ kindCells _ _ (by kernel_rfl) (setRow_heap _ _ _ _ _ _ (heap_alloc_new w _)) Tryz.underlying178 rfl (by kernel_rfl)) rfl ⟨rfl,?_⟩
 rw[setRowAlloc w _ _ _ _]
 exact(Below.refl _ _).alloc (Nat.le_refl _) _
def kindF:Nat→Nat
 | 0=>129 | 1=>131 | 2=>132 | _=>130
def kindS:Nat→ByteArray
 | 0=>⟨#[114,101,99,111,114,100]⟩ | 1=>⟨#[97,99,116,111,114]⟩ | 2=>⟨#[119,101,97,107]⟩ | 3=>⟨#[115,116,117,98]⟩ | _=>⟨#[102,111,114,119,97,114,100]⟩
theorem index_kind (n:Nat) (h:n < 5) (w:World):(Instr.index 178 (.agg kindCells) (.int .i64 (n:Int))).run Tryz.prog w=.ok (.agg #[.string (kindS n),.func (.func (kindF n)) #[] #[]]) w:=by
 have hh:n=0 ∨ n=1 ∨ n=2 ∨ n=3 ∨ n=4:=by omega
 rcases hh with rfl | rfl | rfl | rfl | rfl <;> (show _=_;kernel_rfl)
theorem field_kind (v0 v1:Value) (w:World):(Instr.field 177 (.agg #[v0,v1]) 1).run Tryz.prog w=.ok v1 w:=by kernel_rfl
theorem vH_of (h:Hdr) (n:Nat) (hk:h.k=n) (hn:n < 5):vH h=kB h n:=by
 rw[vH_kinds,decide_eq_true (by omega),hk]
 rfl
theorem vH_out (h:Hdr) (hk:h.k < 0 ∨ 5≤h.k):vH h=false:=by
 rw[vH_kinds,decide_eq_false (by omega)]
 rfl
set_option maxHeartbeats 2000000 in
theorem Valid_0 (c f:Int) (w:World):Calls Tryz.prog 106 #[.agg #[.int .i64 0,.int .i64 c,.int .i64 f]] w fun e w'=>e=.returned (.bool (vH ⟨0,c,f⟩))∧Below w.heap.size w w':=by
 have hb0:Below w.heap.size w (w.alloc (.cells #[.int .i64 0,.int .i64 c,.int .i64 f] 58)):=(Below.refl _ _).alloc (Nat.le_refl _) _
 have HB:=lh hb0
 have hq:=Bk.new w 58 #[.int .i64 0,.int .i64 c,.int .i64 f]
 have q0:(_:Option Value)=some (.int .i64 0):=hq.cell 0
 have q1:(_:Option Value)=some (.int .i64 c):=hq.cell 1
 have q2:(_:Option Value)=some (.int .i64 f):=hq.cell 2
 have j0:=cell_regrown q0
 have j1:=cell_regrown q1
 have j2:=cell_regrown q2
 have cK:=fun dd os=>Calls.regrown_of (kinds_any (grow (redrawn (w.alloc (.cells #[.int .i64 0,.int .i64 c,.int .i64 f] 58)) dd) os))
 have hv:Hid (vH ⟨0,c,f⟩=kB ⟨0,c,f⟩ 0):=lh (vH_of ⟨0,c,f⟩ 0 rfl (by omega))
 have cF:∀ dd os,Calls Tryz.prog 129 #[.agg #[.int .i64 0,.int .i64 c,.int .i64 f]] (grow (redrawn (w.alloc (.cells #[.int .i64 0,.int .i64 c,.int .i64 f] 58)) dd) os) _:=fun dd os=>Calls.regrown_of (kind0_any ⟨0,c,f⟩ (grow (redrawn (w.alloc (.cells #[.int .i64 0,.int .i64 c,.int .i64 f] 58)) dd) os))
 obtain⟨b,hb⟩:∃ b,b=kB ⟨0,c,f⟩ 0:=⟨_,rfl⟩
 have hi:∀ w,(Instr.index 178 (.agg kindCells) (.int .i64 0)).run Tryz.prog w=.ok (.agg #[.string (kindS 0),.func (.func 129) #[] #[]]) w:=fun w=>index_kind 0 (by omega) w
 have hf:=field_kind
 have hbk:Hid (b=kB ⟨0,c,f⟩ 0):=lh hb
 rw[← hb] at cF
 clear hq q0 q1 q2 hb0 hb
 go_enter Tryz.func106,Tryz.ntmps106
 go_wp2_with fail
 refine wp_region_quiet_below (by kernel_rfl) (by kernel_rfl) ?_
 repeat (quiet_step (first | with_reducible exact cK _ _ | with_reducible exact cF _ _))
 refine wpQuiet_nil ?_
 intro w3 hw'
 have hb3:Below (w.alloc (.cells #[.int .i64 0,.int .i64 c,.int .i64 f] 58)).heap.size (w.alloc (.cells #[.int .i64 0,.int .i64 c,.int .i64 f] 58)) w3:=by obtain⟨pp,rfl⟩:=hw';exact below_regrown _ _ _
 have HB3:=lh (HB.out.trans (hb3.mono HB.out.size))
 clear hw' hb3 cK cF j0 j1 j2
 go_wp2_with fail
 go_ret
 exact⟨ret_bool (hbk.out.trans hv.out.symm),HB3.out⟩
set_option maxHeartbeats 2000000 in
theorem Valid_1 (c f:Int) (w:World):Calls Tryz.prog 106 #[.agg #[.int .i64 1,.int .i64 c,.int .i64 f]] w fun e w'=>e=.returned (.bool (vH ⟨1,c,f⟩))∧Below w.heap.size w w':=by
 have hb0:Below w.heap.size w (w.alloc (.cells #[.int .i64 1,.int .i64 c,.int .i64 f] 58)):=(Below.refl _ _).alloc (Nat.le_refl _) _
 have HB:=lh hb0
 have hq:=Bk.new w 58 #[.int .i64 1,.int .i64 c,.int .i64 f]
 have q0:(_:Option Value)=some (.int .i64 1):=hq.cell 0
 have q1:(_:Option Value)=some (.int .i64 c):=hq.cell 1
 have q2:(_:Option Value)=some (.int .i64 f):=hq.cell 2
 have j0:=cell_regrown q0
 have j1:=cell_regrown q1
 have j2:=cell_regrown q2
 have cK:=fun dd os=>Calls.regrown_of (kinds_any (grow (redrawn (w.alloc (.cells #[.int .i64 1,.int .i64 c,.int .i64 f] 58)) dd) os))
 have hv:Hid (vH ⟨1,c,f⟩=kB ⟨1,c,f⟩ 1):=lh (vH_of ⟨1,c,f⟩ 1 rfl (by omega))
 have cF:∀ dd os,Calls Tryz.prog 131 #[.agg #[.int .i64 1,.int .i64 c,.int .i64 f]] (grow (redrawn (w.alloc (.cells #[.int .i64 1,.int .i64 c,.int .i64 f] 58)) dd) os) _:=fun dd os=>Calls.regrown_of (kind1_any ⟨1,c,f⟩ (grow (redrawn (w.alloc (.cells #[.int .i64 1,.int .i64 c,.int .i64 f] 58)) dd) os))
 obtain⟨b,hb⟩:∃ b,b=kB ⟨1,c,f⟩ 1:=⟨_,rfl⟩
 have hi:∀ w,(Instr.index 178 (.agg kindCells) (.int .i64 1)).run Tryz.prog w=.ok (.agg #[.string (kindS 1),.func (.func 131) #[] #[]]) w:=fun w=>index_kind 1 (by omega) w
 have hf:=field_kind
 have hbk:Hid (b=kB ⟨1,c,f⟩ 1):=lh hb
 rw[← hb] at cF
 clear hq q0 q1 q2 hb0 hb
 go_enter Tryz.func106,Tryz.ntmps106
 go_wp2_with fail
 refine wp_region_quiet_below (by kernel_rfl) (by kernel_rfl) ?_
 repeat (quiet_step (first | with_reducible exact cK _ _ | with_reducible exact cF _ _))
 refine wpQuiet_nil ?_
 intro w3 hw'
 have hb3:Below (w.alloc (.cells #[.int .i64 1,.int .i64 c,.int .i64 f] 58)).heap.size (w.alloc (.cells #[.int .i64 1,.int .i64 c,.int .i64 f] 58)) w3:=by obtain⟨pp,rfl⟩:=hw';exact below_regrown _ _ _
 have HB3:=lh (HB.out.trans (hb3.mono HB.out.size))
 clear hw' hb3 cK cF j0 j1 j2
 go_wp2_with fail
 go_ret
 exact⟨ret_bool (hbk.out.trans hv.out.symm),HB3.out⟩
set_option maxHeartbeats 2000000 in
theorem Valid_2 (c f:Int) (w:World):Calls Tryz.prog 106 #[.agg #[.int .i64 2,.int .i64 c,.int .i64 f]] w fun e w'=>e=.returned (.bool (vH ⟨2,c,f⟩))∧Below w.heap.size w w':=by
 have hb0:Below w.heap.size w (w.alloc (.cells #[.int .i64 2,.int .i64 c,.int .i64 f] 58)):=(Below.refl _ _).alloc (Nat.le_refl _) _
 have HB:=lh hb0
 have hq:=Bk.new w 58 #[.int .i64 2,.int .i64 c,.int .i64 f]
 have q0:(_:Option Value)=some (.int .i64 2):=hq.cell 0
 have q1:(_:Option Value)=some (.int .i64 c):=hq.cell 1
 have q2:(_:Option Value)=some (.int .i64 f):=hq.cell 2
 have j0:=cell_regrown q0
 have j1:=cell_regrown q1
 have j2:=cell_regrown q2
 have cK:=fun dd os=>Calls.regrown_of (kinds_any (grow (redrawn (w.alloc (.cells #[.int .i64 2,.int .i64 c,.int .i64 f] 58)) dd) os))
 have hv:Hid (vH ⟨2,c,f⟩=kB ⟨2,c,f⟩ 2):=lh (vH_of ⟨2,c,f⟩ 2 rfl (by omega))
 have cF:∀ dd os,Calls Tryz.prog 132 #[.agg #[.int .i64 2,.int .i64 c,.int .i64 f]] (grow (redrawn (w.alloc (.cells #[.int .i64 2,.int .i64 c,.int .i64 f] 58)) dd) os) _:=fun dd os=>Calls.regrown_of (kind2_any ⟨2,c,f⟩ (grow (redrawn (w.alloc (.cells #[.int .i64 2,.int .i64 c,.int .i64 f] 58)) dd) os))
 obtain⟨b,hb⟩:∃ b,b=kB ⟨2,c,f⟩ 2:=⟨_,rfl⟩
 have hi:∀ w,(Instr.index 178 (.agg kindCells) (.int .i64 2)).run Tryz.prog w=.ok (.agg #[.string (kindS 2),.func (.func 132) #[] #[]]) w:=fun w=>index_kind 2 (by omega) w
 have hf:=field_kind
 have hbk:Hid (b=kB ⟨2,c,f⟩ 2):=lh hb
 rw[← hb] at cF
 clear hq q0 q1 q2 hb0 hb
 go_enter Tryz.func106,Tryz.ntmps106
 go_wp2_with fail
 refine wp_region_quiet_below (by kernel_rfl) (by kernel_rfl) ?_
 repeat (quiet_step (first | with_reducible exact cK _ _ | with_reducible exact cF _ _))
 refine wpQuiet_nil ?_
 intro w3 hw'
 have hb3:Below (w.alloc (.cells #[.int .i64 2,.int .i64 c,.int .i64 f] 58)).heap.size (w.alloc (.cells #[.int .i64 2,.int .i64 c,.int .i64 f] 58)) w3:=by obtain⟨pp,rfl⟩:=hw';exact below_regrown _ _ _
 have HB3:=lh (HB.out.trans (hb3.mono HB.out.size))
 clear hw' hb3 cK cF j0 j1 j2
 go_wp2_with fail
 go_ret
 exact⟨ret_bool (hbk.out.trans hv.out.symm),HB3.out⟩
set_option maxHeartbeats 2000000 in
theorem Valid_3 (c f:Int) (w:World):Calls Tryz.prog 106 #[.agg #[.int .i64 3,.int .i64 c,.int .i64 f]] w fun e w'=>e=.returned (.bool (vH ⟨3,c,f⟩))∧Below w.heap.size w w':=by
 have hb0:Below w.heap.size w (w.alloc (.cells #[.int .i64 3,.int .i64 c,.int .i64 f] 58)):=(Below.refl _ _).alloc (Nat.le_refl _) _
 have HB:=lh hb0
 have hq:=Bk.new w 58 #[.int .i64 3,.int .i64 c,.int .i64 f]
 have q0:(_:Option Value)=some (.int .i64 3):=hq.cell 0
 have q1:(_:Option Value)=some (.int .i64 c):=hq.cell 1
 have q2:(_:Option Value)=some (.int .i64 f):=hq.cell 2
 have j0:=cell_regrown q0
 have j1:=cell_regrown q1
 have j2:=cell_regrown q2
 have cK:=fun dd os=>Calls.regrown_of (kinds_any (grow (redrawn (w.alloc (.cells #[.int .i64 3,.int .i64 c,.int .i64 f] 58)) dd) os))
 have hv:Hid (vH ⟨3,c,f⟩=kB ⟨3,c,f⟩ 3):=lh (vH_of ⟨3,c,f⟩ 3 rfl (by omega))
 have cF:∀ dd os,Calls Tryz.prog 130 #[.agg #[.int .i64 3,.int .i64 c,.int .i64 f]] (grow (redrawn (w.alloc (.cells #[.int .i64 3,.int .i64 c,.int .i64 f] 58)) dd) os) _:=fun dd os=>Calls.regrown_of (within_any ⟨3,c,f⟩ (grow (redrawn (w.alloc (.cells #[.int .i64 3,.int .i64 c,.int .i64 f] 58)) dd) os))
 obtain⟨b,hb⟩:∃ b,b=wtB ⟨3,c,f⟩:=⟨_,rfl⟩
 have hi:∀ w,(Instr.index 178 (.agg kindCells) (.int .i64 3)).run Tryz.prog w=.ok (.agg #[.string (kindS 3),.func (.func 130) #[] #[]]) w:=fun w=>index_kind 3 (by omega) w
 have hf:=field_kind
 have hbk:Hid (b=kB ⟨3,c,f⟩ 3):=lh hb
 rw[← hb] at cF
 clear hq q0 q1 q2 hb0 hb
 go_enter Tryz.func106,Tryz.ntmps106
 go_wp2_with fail
 refine wp_region_quiet_below (by kernel_rfl) (by kernel_rfl) ?_
 repeat (quiet_step (first | with_reducible exact cK _ _ | with_reducible exact cF _ _))
 refine wpQuiet_nil ?_
 intro w3 hw'
 have hb3:Below (w.alloc (.cells #[.int .i64 3,.int .i64 c,.int .i64 f] 58)).heap.size (w.alloc (.cells #[.int .i64 3,.int .i64 c,.int .i64 f] 58)) w3:=by obtain⟨pp,rfl⟩:=hw';exact below_regrown _ _ _
 have HB3:=lh (HB.out.trans (hb3.mono HB.out.size))
 clear hw' hb3 cK cF j0 j1 j2
 go_wp2_with fail
 go_ret
 exact⟨ret_bool (hbk.out.trans hv.out.symm),HB3.out⟩
set_option maxHeartbeats 2000000 in
theorem Valid_4 (c f:Int) (w:World):Calls Tryz.prog 106 #[.agg #[.int .i64 4,.int .i64 c,.int .i64 f]] w fun e w'=>e=.returned (.bool (vH ⟨4,c,f⟩))∧Below w.heap.size w w':=by
 have hb0:Below w.heap.size w (w.alloc (.cells #[.int .i64 4,.int .i64 c,.int .i64 f] 58)):=(Below.refl _ _).alloc (Nat.le_refl _) _
 have HB:=lh hb0
 have hq:=Bk.new w 58 #[.int .i64 4,.int .i64 c,.int .i64 f]
 have q0:(_:Option Value)=some (.int .i64 4):=hq.cell 0
 have q1:(_:Option Value)=some (.int .i64 c):=hq.cell 1
 have q2:(_:Option Value)=some (.int .i64 f):=hq.cell 2
 have j0:=cell_regrown q0
 have j1:=cell_regrown q1
 have j2:=cell_regrown q2
 have cK:=fun dd os=>Calls.regrown_of (kinds_any (grow (redrawn (w.alloc (.cells #[.int .i64 4,.int .i64 c,.int .i64 f] 58)) dd) os))
 have hv:Hid (vH ⟨4,c,f⟩=kB ⟨4,c,f⟩ 4):=lh (vH_of ⟨4,c,f⟩ 4 rfl (by omega))
 have cF:∀ dd os,Calls Tryz.prog 130 #[.agg #[.int .i64 4,.int .i64 c,.int .i64 f]] (grow (redrawn (w.alloc (.cells #[.int .i64 4,.int .i64 c,.int .i64 f] 58)) dd) os) _:=fun dd os=>Calls.regrown_of (within_any ⟨4,c,f⟩ (grow (redrawn (w.alloc (.cells #[.int .i64 4,.int .i64 c,.int .i64 f] 58)) dd) os))
 obtain⟨b,hb⟩:∃ b,b=wtB ⟨4,c,f⟩:=⟨_,rfl⟩
 have hi:∀ w,(Instr.index 178 (.agg kindCells) (.int .i64 4)).run Tryz.prog w=.ok (.agg #[.string (kindS 4),.func (.func 130) #[] #[]]) w:=fun w=>index_kind 4 (by omega) w
 have hf:=field_kind
 have hbk:Hid (b=kB ⟨4,c,f⟩ 4):=lh hb
 rw[← hb] at cF
 clear hq q0 q1 q2 hb0 hb
 go_enter Tryz.func106,Tryz.ntmps106
 go_wp2_with fail
 refine wp_region_quiet_below (by kernel_rfl) (by kernel_rfl) ?_
 repeat (quiet_step (first | with_reducible exact cK _ _ | with_reducible exact cF _ _))
 refine wpQuiet_nil ?_
 intro w3 hw'
 have hb3:Below (w.alloc (.cells #[.int .i64 4,.int .i64 c,.int .i64 f] 58)).heap.size (w.alloc (.cells #[.int .i64 4,.int .i64 c,.int .i64 f] 58)) w3:=by obtain⟨pp,rfl⟩:=hw';exact below_regrown _ _ _
 have HB3:=lh (HB.out.trans (hb3.mono HB.out.size))
 clear hw' hb3 cK cF j0 j1 j2
 go_wp2_with fail
 go_ret
 exact⟨ret_bool (hbk.out.trans hv.out.symm),HB3.out⟩
set_option maxHeartbeats 2000000 in
theorem Valid_out (k c f:Int) (hk:k < 0 ∨ 5≤k) (w:World):Calls Tryz.prog 106 #[.agg #[.int .i64 k,.int .i64 c,.int .i64 f]] w fun e w'=>e=.returned (.bool (vH ⟨k,c,f⟩))∧Below w.heap.size w w':=by
 have hb0:Below w.heap.size w (w.alloc (.cells #[.int .i64 k,.int .i64 c,.int .i64 f] 58)):=(Below.refl _ _).alloc (Nat.le_refl _) _
 have HB:=lh hb0
 have hq:=Bk.new w 58 #[.int .i64 k,.int .i64 c,.int .i64 f]
 have q0:(_:Option Value)=some (.int .i64 k):=hq.cell 0
 have j0:=cell_regrown q0
 have cK:=fun dd os=>Calls.regrown_of (kinds_any (grow (redrawn (w.alloc (.cells #[.int .i64 k,.int .i64 c,.int .i64 f] 58)) dd) os))
 have hv:Hid (vH ⟨k,c,f⟩=false):=lh (vH_out ⟨k,c,f⟩ hk)
 clear hq q0 hb0
 rcases hk with hk | hk
 ·have d0:decide (0≤k)=false:=decide_eq_false (by omega)
  go_enter Tryz.func106,Tryz.ntmps106
  go_wp2_with fail
  refine wp_region_quiet_below (by kernel_rfl) (by kernel_rfl) ?_
  repeat (quiet_step (first | with_reducible exact cK _ _))
  refine wpQuiet_nil ?_
  intro w3 hw'
  have hb3:Below (w.alloc (.cells #[.int .i64 k,.int .i64 c,.int .i64 f] 58)).heap.size (w.alloc (.cells #[.int .i64 k,.int .i64 c,.int .i64 f] 58)) w3:=by obtain⟨pp,rfl⟩:=hw';exact below_regrown _ _ _
  have HB3:=lh (HB.out.trans (hb3.mono HB.out.size))
  clear hw' hb3 cK j0
  go_wp2_with fail
  go_ret
  exact⟨ret_bool hv.out.symm,HB3.out⟩
 ·have d0:decide (0≤k)=true:=decide_eq_true (by omega)
  have d1:decide (k < 5)=false:=decide_eq_false (by omega)
  go_enter Tryz.func106,Tryz.ntmps106
  go_wp2_with fail
  refine wp_region_quiet_below (by kernel_rfl) (by kernel_rfl) ?_
  repeat (quiet_step (first | with_reducible exact cK _ _))
  refine wpQuiet_nil ?_
  intro w3 hw'
  have hb3:Below (w.alloc (.cells #[.int .i64 k,.int .i64 c,.int .i64 f] 58)).heap.size (w.alloc (.cells #[.int .i64 k,.int .i64 c,.int .i64 f] 58)) w3:=by obtain⟨pp,rfl⟩:=hw';exact below_regrown _ _ _
  have HB3:=lh (HB.out.trans (hb3.mono HB.out.size))
  clear hw' hb3 cK j0
  go_wp2_with fail
  go_ret
  exact⟨ret_bool hv.out.symm,HB3.out⟩
theorem Valid_any (h:Hdr) (w:World):Calls Tryz.prog 106 #[h.val] w fun e w'=>e=.returned (.bool (vH h))∧Below w.heap.size w w':=by
 obtain⟨k,c,f⟩:=h
 show Calls _ _ #[.agg #[.int .i64 k,.int .i64 c,.int .i64 f]] _ _
 by_cases hin:0≤k∧k < 5
 ·obtain⟨n,rfl⟩:=Int.eq_ofNat_of_zero_le hin.1
  have hh:n=0 ∨ n=1 ∨ n=2 ∨ n=3 ∨ n=4:=by omega
  rcases hh with rfl | rfl | rfl | rfl | rfl
  ·exact Valid_0 c f w
  ·exact Valid_1 c f w
  ·exact Valid_2 c f w
  ·exact Valid_3 c f w
  ·exact Valid_4 c f w
 ·exact Valid_out k c f (by omega) w
end
section
open Go.RowKit Go.Sort
def encV (h:Hdr):Value:=if vH h=true then .tuple #[.int .u64 (eH h),.int .i64 0] else .tuple #[.int .u64 0,.int .i64 1]
set_option maxHeartbeats 1000000 in
theorem Encode_any (h:Hdr) (w:World):Calls Tryz.prog 92 #[h.val] w fun e w'=>e=.returned (encV h)∧Below w.heap.size w w':=by
 have cV:=Valid_any h (w.alloc (.cells #[.int .i64 h.k,.int .i64 h.c,.int .i64 h.f] 58))
 have HB:=lh (boxH w h)
 unfold encV
 cases hv:vH h with
 | false =>
  rw[if_neg (by simp)]
  simp only[hv] at cV
  clear hv
  obtain⟨k,c,f⟩:=h
  unfold Hdr.val at cV ⊢
  simp only at HB cV ⊢
  go_enter Tryz.func92,Tryz.ntmps92
  go_wp2_with fail
  refine cV.mono ?_
  rintro e w1 ⟨rfl,hb⟩
  have HB2:=lh (HB.out.trans (hb.mono HB.out.size))
  clear hb
  go_wp2_with fail
  go_ret2
  exact⟨rfl,HB2.out⟩
 | true =>
  rw[if_pos rfl]
  simp only[hv] at cV
  obtain⟨k0,k1,k2,k3,k4,k5⟩:=vH_bound hv
  clear hv
  obtain⟨k,c,f⟩:=h
  unfold Hdr.val at cV ⊢
  simp only at HB cV k0 k1 k2 k3 k4 k5 ⊢
  obtain⟨k,rfl⟩:=Int.eq_ofNat_of_zero_le k0
  obtain⟨c,rfl⟩:=Int.eq_ofNat_of_zero_le k2
  obtain⟨f,rfl⟩:=Int.eq_ofNat_of_zero_le k4
  have ho:=lh (or_parts f c k (by omega) (by omega) (by omega))
  go_enter Tryz.func92,Tryz.ntmps92
  go_wp2_with fail
  refine cV.mono ?_
  rintro e w1 ⟨rfl,hb⟩
  have HB2:=lh (HB.out.trans (hb.mono HB.out.size))
  have c0:=box_kept hb 0
  have c1:=box_kept hb 1
  have c2:=box_kept hb 2
  simp only[List.getElem?_toArray,List.getElem?_cons_zero,List.getElem?_cons_succ] at c0 c1 c2
  clear hb
  go_wp2_with fail
  go_ret2
  exact⟨ret_uu ho.out,HB2.out⟩
theorem Words_any (h:Hdr) (w:World):Calls Tryz.prog 74 #[h.val] w fun e w'=>e=.returned (.int .i64 (wH h))∧Below w.heap.size w w':=by
 have cV:=Valid_any h (w.alloc (.cells #[.int .i64 h.k,.int .i64 h.c,.int .i64 h.f] 58))
 have HB:=lh (boxH w h)
 unfold wH
 cases hv:vH h with
 | false =>
  rw[if_neg (by simp)]
  simp only[hv] at cV
  clear hv
  obtain⟨k,c,f⟩:=h
  unfold Hdr.val at cV ⊢
  simp only at HB cV ⊢
  go_enter Tryz.func74,Tryz.ntmps74
  go_wp2_with fail
  refine cV.mono ?_
  rintro e w1 ⟨rfl,hb⟩
  have HB2:=lh (HB.out.trans (hb.mono HB.out.size))
  clear hb
  go_wp2_with fail
  go_ret
  exact⟨rfl,HB2.out⟩
 | true =>
  rw[if_pos rfl]
  simp only[hv] at cV
  obtain⟨k0,k1,k2,k3,k4,k5⟩:=vH_bound hv
  clear hv
  obtain⟨k,c,f⟩:=h
  unfold Hdr.val at cV ⊢
  simp only at HB cV k0 k1 k2 k3 k4 k5 ⊢
  go_enter Tryz.func74,Tryz.ntmps74
  go_wp2_with fail
  refine cV.mono ?_
  rintro e w1 ⟨rfl,hb⟩
  have HB2:=lh (HB.out.trans (hb.mono HB.out.size))
  have c2:=box_kept hb 2
  simp only[List.getElem?_toArray,List.getElem?_cons_zero,List.getElem?_cons_succ] at c2
  clear hb
  go_wp2_with fail
  all_goals
   go_ret
   exact⟨ret_int (by omega),HB2.out⟩
def decV (x:Int):Value:=match dH x with | some h=>.tuple #[h.val,.int .i64 0] | none=>.tuple #[Hdr.zero.val,.int .i64 11]
set_option maxHeartbeats 1000000 in
theorem Decode_any {x:Int} (hx:U64 x) (w:World):Calls Tryz.prog 71 #[.int .u64 x] w fun e w'=>e=.returned (decV x)∧Below w.heap.size w w':=by
 have hx0:=hx.1
 have hx1:=hx.2
 obtain⟨k,hk⟩:∃ k,k=x / 4 % 64:=⟨_,rfl⟩
 obtain⟨c,hc⟩:∃ c,c=x / 256 % 65536:=⟨_,rfl⟩
 obtain⟨f,hf⟩:∃ f,f=x / 16777216 % 65536:=⟨_,rfl⟩
 have q0:=and_63 (w:=x / 4) ⟨by omega,by omega⟩
 have q1:=and_65535 (w:=x / 256) ⟨by omega,by omega⟩
 have q2:=and_65535 (w:=x / 16777216) ⟨by omega,by omega⟩
 rw[← hk] at q0
 rw[← hc] at q1
 rw[← hf] at q2
 have hk2:0≤k∧k < 64:=by omega
 have hc2:0≤c∧c < 65536:=by omega
 have hf2:0≤f∧f < 65536:=by omega
 obtain⟨k0,k1⟩:=hk2
 obtain⟨c0,c1⟩:=hc2
 obtain⟨f0,f1⟩:=hf2
 have HD:Hid (decV x=if vH ⟨k,c,f⟩=true∧eH ⟨k,c,f⟩=x then .tuple #[.agg #[.int .i64 k,.int .i64 c,.int .i64 f],.int .i64 0] else .tuple #[.agg #[.int .i64 0,.int .i64 0,.int .i64 0],.int .i64 11]):=lh (by
  have hp:pH x=⟨k,c,f⟩:=by unfold pH;rw[hk,hc,hf]
  unfold decV dH
  rw[hp]
  by_cases h:vH ⟨k,c,f⟩=true∧eH ⟨k,c,f⟩=x
  ·rw[if_pos h,if_pos h];rfl
  ·rw[if_neg h,if_neg h];rfl)
 have hb0:Below w.heap.size w ((w.alloc (.cells #[.int .i64 0,.int .i64 0,.int .i64 0] 58)).alloc (.cells #[.int .i64 k,.int .i64 c,.int .i64 f] 58)):=((Below.refl _ _).alloc (Nat.le_refl _) _).alloc (by simp) _
 have cE:=Encode_any ⟨k,c,f⟩ ((w.alloc (.cells #[.int .i64 0,.int .i64 0,.int .i64 0] 58)).alloc (.cells #[.int .i64 k,.int .i64 c,.int .i64 f] 58))
 have hz:Bk ((w.alloc (.cells #[.int .i64 0,.int .i64 0,.int .i64 0] 58)).alloc (.cells #[.int .i64 k,.int .i64 c,.int .i64 f] 58)) w.heap.size 58 #[.int .i64 0,.int .i64 0,.int .i64 0]:=(Bk.new _ _ _).alloc _
 have hy:Bk ((w.alloc (.cells #[.int .i64 0,.int .i64 0,.int .i64 0] 58)).alloc (.cells #[.int .i64 k,.int .i64 c,.int .i64 f] 58)) (w.heap.size+1) 58 #[.int .i64 k,.int .i64 c,.int .i64 f]:=by
  have:=Bk.new (w.alloc (.cells #[.int .i64 0,.int .i64 0,.int .i64 0] 58)) 58 #[.int .i64 k,.int .i64 c,.int .i64 f]
  simpa using this
 have HB:=lh hb0
 have HZ:=lh hz
 have HY:=lh hy
 unfold encV at cE
 unfold Hdr.val at cE
 clear hb0 hz hy hk hc hf
 rw[HD.out]
 cases hv:vH ⟨k,c,f⟩ with
 | false =>
  rw[if_neg (by simp)]
  simp only[hv] at cE
  rw[if_neg (by simp)] at cE
  clear hv HD
  go_enter Tryz.func71,Tryz.ntmps71
  go_wp2_with fail
  refine cE.mono ?_
  rintro e w1 ⟨rfl,hb⟩
  have HB2:=lh (HB.out.trans (hb.mono HB.out.size))
  have hz1:=HZ.out.below hb HZ.out.lt
  have z0:w1.cell? ⟨w.heap.size,0,none⟩=some (.int .i64 0):=hz1.cell 0
  have z1:w1.cell? ⟨w.heap.size,1,none⟩=some (.int .i64 0):=hz1.cell 1
  have z2:w1.cell? ⟨w.heap.size,2,none⟩=some (.int .i64 0):=hz1.cell 2
  have y0:w1.frozen? ⟨w.heap.size,0,none⟩=false:=hz1.free 0
  have y1:w1.frozen? ⟨w.heap.size,1,none⟩=false:=hz1.free 1
  have y2:w1.frozen? ⟨w.heap.size,2,none⟩=false:=hz1.free 2
  clear hb hz1
  go_wp2_with fail
  exact bodyPost_ret (v:=.tuple #[.agg #[.int .i64 0,.int .i64 0,.int .i64 0],.int .i64 11]) (by simp[results,Tryz.results71,go_sem,z0,z1,z2]) rfl ⟨rfl,((HB2.out.setCell (p:=⟨w.heap.size,0,none⟩) (Nat.le_refl _) _).setCell (p:=⟨w.heap.size,1,none⟩) (Nat.le_refl _) _).setCell (p:=⟨w.heap.size,2,none⟩) (Nat.le_refl _) _⟩
 | true =>
  simp only[hv,if_true] at cE
  obtain⟨y,hy⟩:∃ y,y=eH ⟨k,c,f⟩:=⟨_,rfl⟩
  have hyb:=eH_bound hv
  rw[← hy] at cE hyb ⊢
  by_cases hyx:y=x
  ·rw[if_pos ⟨rfl,hyx⟩]
   subst hyx
   clear hv HD hy
   go_enter Tryz.func71,Tryz.ntmps71
   go_wp2_with fail
   refine cE.mono ?_
   rintro e w1 ⟨rfl,hb⟩
   have HB2:=lh (HB.out.trans (hb.mono HB.out.size))
   have hz1:=HZ.out.below hb HZ.out.lt
   have hy1:=HY.out.below hb HY.out.lt
   have z0:w1.cell? ⟨w.heap.size,0,none⟩=some (.int .i64 0):=hz1.cell 0
   have z1:w1.cell? ⟨w.heap.size,1,none⟩=some (.int .i64 0):=hz1.cell 1
   have z2:w1.cell? ⟨w.heap.size,2,none⟩=some (.int .i64 0):=hz1.cell 2
   have y0:w1.frozen? ⟨w.heap.size,0,none⟩=false:=hz1.free 0
   have y1:w1.frozen? ⟨w.heap.size,1,none⟩=false:=hz1.free 1
   have y2:w1.frozen? ⟨w.heap.size,2,none⟩=false:=hz1.free 2
   have v0:w1.cell? ⟨w.heap.size+1,0,none⟩=some (.int .i64 k):=hy1.cell 0
   have v1:w1.cell? ⟨w.heap.size+1,1,none⟩=some (.int .i64 c):=hy1.cell 1
   have v2:w1.cell? ⟨w.heap.size+1,2,none⟩=some (.int .i64 f):=hy1.cell 2
   clear hb hz1 hy1
   go_wp2_with fail
   exact bodyPost_ret (v:=.tuple #[.agg #[.int .i64 k,.int .i64 c,.int .i64 f],.int .i64 0]) (by simp[results,Tryz.results71,go_sem,z0,z1,z2]) rfl ⟨rfl,((HB2.out.setCell (p:=⟨w.heap.size,0,none⟩) (Nat.le_refl _) _).setCell (p:=⟨w.heap.size,1,none⟩) (Nat.le_refl _) _).setCell (p:=⟨w.heap.size,2,none⟩) (Nat.le_refl _) _⟩
  ·rw[if_neg (fun h=>hyx h.2)]
   have hne:(y != x)=true:=by simpa using hyx
   clear hv HD hy hyx
   go_enter Tryz.func71,Tryz.ntmps71
   go_wp2_with fail
   refine cE.mono ?_
   rintro e w1 ⟨rfl,hb⟩
   have HB2:=lh (HB.out.trans (hb.mono HB.out.size))
   have hz1:=HZ.out.below hb HZ.out.lt
   have z0:w1.cell? ⟨w.heap.size,0,none⟩=some (.int .i64 0):=hz1.cell 0
   have z1:w1.cell? ⟨w.heap.size,1,none⟩=some (.int .i64 0):=hz1.cell 1
   have z2:w1.cell? ⟨w.heap.size,2,none⟩=some (.int .i64 0):=hz1.cell 2
   have y0:w1.frozen? ⟨w.heap.size,0,none⟩=false:=hz1.free 0
   have y1:w1.frozen? ⟨w.heap.size,1,none⟩=false:=hz1.free 1
   have y2:w1.frozen? ⟨w.heap.size,2,none⟩=false:=hz1.free 2
   clear hb hz1
   go_wp2_with fail
   exact bodyPost_ret (v:=.tuple #[.agg #[.int .i64 0,.int .i64 0,.int .i64 0],.int .i64 11]) (by simp[results,Tryz.results71,go_sem,z0,z1,z2]) rfl ⟨rfl,((HB2.out.setCell (p:=⟨w.heap.size,0,none⟩) (Nat.le_refl _) _).setCell (p:=⟨w.heap.size,1,none⟩) (Nat.le_refl _) _).setCell (p:=⟨w.heap.size,2,none⟩) (Nat.le_refl _) _⟩
end
section
open Go.RowKit Go.Sort
set_option maxHeartbeats 1000000 in
theorem RValid_any (h:Hdr) (w:World):Calls Tryz.prog 98 #[h.val] w fun e w'=>e=.returned (.bool (vH h))∧Below w.heap.size w w':=by
 have HB:=lh (boxH w h)
 obtain⟨k,c,f⟩:=h
 unfold Hdr.val
 simp only at HB ⊢
 by_cases g0:c < 0
 ·skip
  have hk:Hid (vH ⟨k,c,f⟩=false):=lh (Bool.eq_false_iff.2 fun h=>by have:=(vH_iff _).1 h;simp only at this;omega)
  go_enter Tryz.func98,Tryz.ntmps98
  go_wp2_with fail
  go_ret
  exact⟨ret_bool hk.out.symm,HB.out⟩
 have g0:0≤c:=by omega
 by_cases g1:60 < c
 ·skip
  have hk:Hid (vH ⟨k,c,f⟩=false):=lh (Bool.eq_false_iff.2 fun h=>by have:=(vH_iff _).1 h;simp only at this;omega)
  go_enter Tryz.func98,Tryz.ntmps98
  go_wp2_with fail
  go_ret
  exact⟨ret_bool hk.out.symm,HB.out⟩
 have g1:c≤60:=by omega
 by_cases g2:f < 0
 ·skip
  have hk:Hid (vH ⟨k,c,f⟩=false):=lh (Bool.eq_false_iff.2 fun h=>by have:=(vH_iff _).1 h;simp only at this;omega)
  go_enter Tryz.func98,Tryz.ntmps98
  go_wp2_with fail
  go_ret
  exact⟨ret_bool hk.out.symm,HB.out⟩
 have g2:0≤f:=by omega
 by_cases g3:30 < f
 ·skip
  have hk:Hid (vH ⟨k,c,f⟩=false):=lh (Bool.eq_false_iff.2 fun h=>by have:=(vH_iff _).1 h;simp only at this;omega)
  go_enter Tryz.func98,Tryz.ntmps98
  go_wp2_with fail
  go_ret
  exact⟨ret_bool hk.out.symm,HB.out⟩
 have g3:f≤30:=by omega
 by_cases e0:k=0
 ·subst e0
  by_cases g5:0 < c
  ·skip
   have hk:Hid (vH ⟨0,c,f⟩=true):=lh ((vH_iff _).2 (by simp <;> omega))
   go_enter Tryz.func98,Tryz.ntmps98
   go_wp2_with fail
   go_ret
   exact⟨ret_bool hk.out.symm,HB.out⟩
  ·have g6:c≤0:=by omega
   have hk:Hid (vH ⟨0,c,f⟩=false):=lh (Bool.eq_false_iff.2 fun h=>by have:=(vH_iff _).1 h;simp only at this;omega)
   go_enter Tryz.func98,Tryz.ntmps98
   go_wp2_with fail
   go_ret
   exact⟨ret_bool hk.out.symm,HB.out⟩
 by_cases e1:k=1
 ·subst e1
  by_cases g5:0 < c
  ·skip
   have hk:Hid (vH ⟨1,c,f⟩=true):=lh ((vH_iff _).2 (by simp <;> omega))
   go_enter Tryz.func98,Tryz.ntmps98
   go_wp2_with fail
   go_ret
   exact⟨ret_bool hk.out.symm,HB.out⟩
  ·have g6:c≤0:=by omega
   have hk:Hid (vH ⟨1,c,f⟩=false):=lh (Bool.eq_false_iff.2 fun h=>by have:=(vH_iff _).1 h;simp only at this;omega)
   go_enter Tryz.func98,Tryz.ntmps98
   go_wp2_with fail
   go_ret
   exact⟨ret_bool hk.out.symm,HB.out⟩
 by_cases e2:k=2
 ·subst e2
  by_cases g5:c=0
  ·subst g5
   by_cases g6:f=1
   ·subst g6
    have hk:Hid (vH ⟨2,0,1⟩=true):=lh ((vH_iff _).2 (by simp <;> omega))
    go_enter Tryz.func98,Tryz.ntmps98
    go_wp2_with fail
    go_ret
    exact⟨ret_bool hk.out.symm,HB.out⟩
   ·have g7:(f == 1)=false:=by simpa using g6
    have hk:Hid (vH ⟨2,0,f⟩=false):=lh (Bool.eq_false_iff.2 fun h=>by have:=(vH_iff _).1 h;simp only at this;omega)
    go_enter Tryz.func98,Tryz.ntmps98
    go_wp2_with fail
    go_ret
    exact⟨ret_bool hk.out.symm,HB.out⟩
  ·have g7:(c == 0)=false:=by simpa using g5
   have hk:Hid (vH ⟨2,c,f⟩=false):=lh (Bool.eq_false_iff.2 fun h=>by have:=(vH_iff _).1 h;simp only at this;omega)
   go_enter Tryz.func98,Tryz.ntmps98
   go_wp2_with fail
   go_ret
   exact⟨ret_bool hk.out.symm,HB.out⟩
 by_cases e3:k=3
 ·subst e3
  have hk:Hid (vH ⟨3,c,f⟩=true):=lh ((vH_iff _).2 (by simp <;> omega))
  go_enter Tryz.func98,Tryz.ntmps98
  go_wp2_with fail
  go_ret
  exact⟨ret_bool hk.out.symm,HB.out⟩
 by_cases e4:k=4
 ·subst e4
  have hk:Hid (vH ⟨4,c,f⟩=true):=lh ((vH_iff _).2 (by simp <;> omega))
  go_enter Tryz.func98,Tryz.ntmps98
  go_wp2_with fail
  go_ret
  exact⟨ret_bool hk.out.symm,HB.out⟩
 have d0:(k == 0)=false:=by simpa using e0
 have d1:(k == 1)=false:=by simpa using e1
 have d2:(k == 2)=false:=by simpa using e2
 have d3:(k == 3)=false:=by simpa using e3
 have d4:(k == 4)=false:=by simpa using e4
 have hk:Hid (vH ⟨k,c,f⟩=false):=lh (Bool.eq_false_iff.2 fun h=>by have:=(vH_iff _).1 h;simp only at this;omega)
 go_enter Tryz.func98,Tryz.ntmps98
 go_wp2_with fail
 go_ret
 exact⟨ret_bool hk.out.symm,HB.out⟩
set_option maxHeartbeats 1000000 in
theorem REncode_any (h:Hdr) (w:World):Calls Tryz.prog 97 #[h.val] w fun e w'=>e=.returned (encV h)∧Below w.heap.size w w':=by
 have cV:=RValid_any h (w.alloc (.cells #[.int .i64 h.k,.int .i64 h.c,.int .i64 h.f] 58))
 have HB:=lh (boxH w h)
 unfold encV
 cases hv:vH h with
 | false =>
  rw[if_neg (by simp)]
  simp only[hv] at cV
  clear hv
  obtain⟨k,c,f⟩:=h
  unfold Hdr.val at cV ⊢
  simp only at HB cV ⊢
  go_enter Tryz.func97,Tryz.ntmps97
  go_wp2_with fail
  refine cV.mono ?_
  rintro e w1 ⟨rfl,hb⟩
  have HB2:=lh (HB.out.trans (hb.mono HB.out.size))
  clear hb
  go_wp2_with fail
  go_ret2
  exact⟨rfl,HB2.out⟩
 | true =>
  rw[if_pos rfl]
  simp only[hv] at cV
  obtain⟨k0,k1,k2,k3,k4,k5⟩:=vH_bound hv
  clear hv
  obtain⟨k,c,f⟩:=h
  unfold Hdr.val at cV ⊢
  simp only at HB cV k0 k1 k2 k3 k4 k5 ⊢
  obtain⟨k,rfl⟩:=Int.eq_ofNat_of_zero_le k0
  obtain⟨c,rfl⟩:=Int.eq_ofNat_of_zero_le k2
  obtain⟨f,rfl⟩:=Int.eq_ofNat_of_zero_le k4
  have ho:Hid (3+4*(k:Int)+256*(c:Int)+16777216*(f:Int)=eH ⟨k,c,f⟩):=lh rfl
  go_enter Tryz.func97,Tryz.ntmps97
  go_wp2_with fail
  refine cV.mono ?_
  rintro e w1 ⟨rfl,hb⟩
  have HB2:=lh (HB.out.trans (hb.mono HB.out.size))
  have c0:=box_kept hb 0
  have c1:=box_kept hb 1
  have c2:=box_kept hb 2
  simp only[List.getElem?_toArray,List.getElem?_cons_zero,List.getElem?_cons_succ] at c0 c1 c2
  clear hb
  go_wp2_with fail
  go_ret2
  exact⟨ret_uu ho.out,HB2.out⟩
theorem RWords_any (h:Hdr) (w:World):Calls Tryz.prog 49 #[h.val] w fun e w'=>e=.returned (.int .i64 (wH h))∧Below w.heap.size w w':=by
 have cV:=RValid_any h (w.alloc (.cells #[.int .i64 h.k,.int .i64 h.c,.int .i64 h.f] 58))
 have HB:=lh (boxH w h)
 unfold wH
 cases hv:vH h with
 | false =>
  rw[if_neg (by simp)]
  simp only[hv] at cV
  clear hv
  obtain⟨k,c,f⟩:=h
  unfold Hdr.val at cV ⊢
  simp only at HB cV ⊢
  go_enter Tryz.func49,Tryz.ntmps49
  go_wp2_with fail
  refine cV.mono ?_
  rintro e w1 ⟨rfl,hb⟩
  have HB2:=lh (HB.out.trans (hb.mono HB.out.size))
  clear hb
  go_wp2_with fail
  go_ret
  exact⟨rfl,HB2.out⟩
 | true =>
  rw[if_pos rfl]
  simp only[hv] at cV
  obtain⟨k0,k1,k2,k3,k4,k5⟩:=vH_bound hv
  clear hv
  obtain⟨k,c,f⟩:=h
  unfold Hdr.val at cV ⊢
  simp only at HB cV k0 k1 k2 k3 k4 k5 ⊢
  go_enter Tryz.func49,Tryz.ntmps49
  go_wp2_with fail
  refine cV.mono ?_
  rintro e w1 ⟨rfl,hb⟩
  have HB2:=lh (HB.out.trans (hb.mono HB.out.size))
  have c2:=box_kept hb 2
  simp only[List.getElem?_toArray,List.getElem?_cons_zero,List.getElem?_cons_succ] at c2
  clear hb
  go_wp2_with fail
  all_goals
   go_ret
   exact⟨ret_int (by omega),HB2.out⟩
set_option maxHeartbeats 1000000 in
theorem RDecode_any {x:Int} (hx:U64 x) (w:World):Calls Tryz.prog 48 #[.int .u64 x] w fun e w'=>e=.returned (decV x)∧Below w.heap.size w w':=by
 have hx0:=hx.1
 have hx1:=hx.2
 obtain⟨k,hk⟩:∃ k,k=x / 4 % 64:=⟨_,rfl⟩
 obtain⟨c,hc⟩:∃ c,c=x / 256 % 65536:=⟨_,rfl⟩
 obtain⟨f,hf⟩:∃ f,f=x / 16777216 % 65536:=⟨_,rfl⟩
 have q0:x / 4 % 64=k:=hk.symm
 have q1:x / 256 % 65536=c:=hc.symm
 have q2:x / 16777216 % 65536=f:=hf.symm
 have hk2:0≤k∧k < 64:=by omega
 have hc2:0≤c∧c < 65536:=by omega
 have hf2:0≤f∧f < 65536:=by omega
 obtain⟨k0,k1⟩:=hk2
 obtain⟨c0,c1⟩:=hc2
 obtain⟨f0,f1⟩:=hf2
 have HD:Hid (decV x=if vH ⟨k,c,f⟩=true∧eH ⟨k,c,f⟩=x then .tuple #[.agg #[.int .i64 k,.int .i64 c,.int .i64 f],.int .i64 0] else .tuple #[.agg #[.int .i64 0,.int .i64 0,.int .i64 0],.int .i64 11]):=lh (by
  have hp:pH x=⟨k,c,f⟩:=by unfold pH;rw[hk,hc,hf]
  unfold decV dH
  rw[hp]
  by_cases h:vH ⟨k,c,f⟩=true∧eH ⟨k,c,f⟩=x
  ·rw[if_pos h,if_pos h];rfl
  ·rw[if_neg h,if_neg h];rfl)
 have hb0:Below w.heap.size w ((w.alloc (.cells #[.int .i64 0,.int .i64 0,.int .i64 0] 58)).alloc (.cells #[.int .i64 k,.int .i64 c,.int .i64 f] 58)):=((Below.refl _ _).alloc (Nat.le_refl _) _).alloc (by simp) _
 have cE:=REncode_any ⟨k,c,f⟩ ((w.alloc (.cells #[.int .i64 0,.int .i64 0,.int .i64 0] 58)).alloc (.cells #[.int .i64 k,.int .i64 c,.int .i64 f] 58))
 have hz:Bk ((w.alloc (.cells #[.int .i64 0,.int .i64 0,.int .i64 0] 58)).alloc (.cells #[.int .i64 k,.int .i64 c,.int .i64 f] 58)) w.heap.size 58 #[.int .i64 0,.int .i64 0,.int .i64 0]:=(Bk.new _ _ _).alloc _
 have hy:Bk ((w.alloc (.cells #[.int .i64 0,.int .i64 0,.int .i64 0] 58)).alloc (.cells #[.int .i64 k,.int .i64 c,.int .i64 f] 58)) (w.heap.size+1) 58 #[.int .i64 k,.int .i64 c,.int .i64 f]:=by
  have:=Bk.new (w.alloc (.cells #[.int .i64 0,.int .i64 0,.int .i64 0] 58)) 58 #[.int .i64 k,.int .i64 c,.int .i64 f]
  simpa using this
 have HB:=lh hb0
 have HZ:=lh hz
 have HY:=lh hy
 unfold encV at cE
 unfold Hdr.val at cE
 clear hb0 hz hy hk hc hf
 rw[HD.out]
 cases hv:vH ⟨k,c,f⟩ with
 | false =>
  rw[if_neg (by simp)]
  simp only[hv] at cE
  rw[if_neg (by simp)] at cE
  clear hv HD
  go_enter Tryz.func48,Tryz.ntmps48
  go_wp2_with fail
  refine cE.mono ?_
  rintro e w1 ⟨rfl,hb⟩
  have HB2:=lh (HB.out.trans (hb.mono HB.out.size))
  have hz1:=HZ.out.below hb HZ.out.lt
  have z0:w1.cell? ⟨w.heap.size,0,none⟩=some (.int .i64 0):=hz1.cell 0
  have z1:w1.cell? ⟨w.heap.size,1,none⟩=some (.int .i64 0):=hz1.cell 1
  have z2:w1.cell? ⟨w.heap.size,2,none⟩=some (.int .i64 0):=hz1.cell 2
  have y0:w1.frozen? ⟨w.heap.size,0,none⟩=false:=hz1.free 0
  have y1:w1.frozen? ⟨w.heap.size,1,none⟩=false:=hz1.free 1
  have y2:w1.frozen? ⟨w.heap.size,2,none⟩=false:=hz1.free 2
  clear hb hz1
  go_wp2_with fail
  exact bodyPost_ret (v:=.tuple #[.agg #[.int .i64 0,.int .i64 0,.int .i64 0],.int .i64 11]) (by simp[results,Tryz.results48,go_sem,z0,z1,z2]) rfl ⟨rfl,((HB2.out.setCell (p:=⟨w.heap.size,0,none⟩) (Nat.le_refl _) _).setCell (p:=⟨w.heap.size,1,none⟩) (Nat.le_refl _) _).setCell (p:=⟨w.heap.size,2,none⟩) (Nat.le_refl _) _⟩
 | true =>
  simp only[hv,if_true] at cE
  obtain⟨y,hy⟩:∃ y,y=eH ⟨k,c,f⟩:=⟨_,rfl⟩
  have hyb:=eH_bound hv
  rw[← hy] at cE hyb ⊢
  by_cases hyx:y=x
  ·rw[if_pos ⟨rfl,hyx⟩]
   subst hyx
   clear hv HD hy
   go_enter Tryz.func48,Tryz.ntmps48
   go_wp2_with fail
   refine cE.mono ?_
   rintro e w1 ⟨rfl,hb⟩
   have HB2:=lh (HB.out.trans (hb.mono HB.out.size))
   have hz1:=HZ.out.below hb HZ.out.lt
   have hy1:=HY.out.below hb HY.out.lt
   have z0:w1.cell? ⟨w.heap.size,0,none⟩=some (.int .i64 0):=hz1.cell 0
   have z1:w1.cell? ⟨w.heap.size,1,none⟩=some (.int .i64 0):=hz1.cell 1
   have z2:w1.cell? ⟨w.heap.size,2,none⟩=some (.int .i64 0):=hz1.cell 2
   have y0:w1.frozen? ⟨w.heap.size,0,none⟩=false:=hz1.free 0
   have y1:w1.frozen? ⟨w.heap.size,1,none⟩=false:=hz1.free 1
   have y2:w1.frozen? ⟨w.heap.size,2,none⟩=false:=hz1.free 2
   have v0:w1.cell? ⟨w.heap.size+1,0,none⟩=some (.int .i64 k):=hy1.cell 0
   have v1:w1.cell? ⟨w.heap.size+1,1,none⟩=some (.int .i64 c):=hy1.cell 1
   have v2:w1.cell? ⟨w.heap.size+1,2,none⟩=some (.int .i64 f):=hy1.cell 2
   clear hb hz1 hy1
   go_wp2_with fail
   exact bodyPost_ret (v:=.tuple #[.agg #[.int .i64 k,.int .i64 c,.int .i64 f],.int .i64 0]) (by simp[results,Tryz.results48,go_sem,z0,z1,z2]) rfl ⟨rfl,((HB2.out.setCell (p:=⟨w.heap.size,0,none⟩) (Nat.le_refl _) _).setCell (p:=⟨w.heap.size,1,none⟩) (Nat.le_refl _) _).setCell (p:=⟨w.heap.size,2,none⟩) (Nat.le_refl _) _⟩
  ·rw[if_neg (fun h=>hyx h.2)]
   have hne:(y != x)=true:=by simpa using hyx
   clear hv HD hy hyx
   go_enter Tryz.func48,Tryz.ntmps48
   go_wp2_with fail
   refine cE.mono ?_
   rintro e w1 ⟨rfl,hb⟩
   have HB2:=lh (HB.out.trans (hb.mono HB.out.size))
   have hz1:=HZ.out.below hb HZ.out.lt
   have z0:w1.cell? ⟨w.heap.size,0,none⟩=some (.int .i64 0):=hz1.cell 0
   have z1:w1.cell? ⟨w.heap.size,1,none⟩=some (.int .i64 0):=hz1.cell 1
   have z2:w1.cell? ⟨w.heap.size,2,none⟩=some (.int .i64 0):=hz1.cell 2
   have y0:w1.frozen? ⟨w.heap.size,0,none⟩=false:=hz1.free 0
   have y1:w1.frozen? ⟨w.heap.size,1,none⟩=false:=hz1.free 1
   have y2:w1.frozen? ⟨w.heap.size,2,none⟩=false:=hz1.free 2
   clear hb hz1
   go_wp2_with fail
   exact bodyPost_ret (v:=.tuple #[.agg #[.int .i64 0,.int .i64 0,.int .i64 0],.int .i64 11]) (by simp[results,Tryz.results48,go_sem,z0,z1,z2]) rfl ⟨rfl,((HB2.out.setCell (p:=⟨w.heap.size,0,none⟩) (Nat.le_refl _) _).setCell (p:=⟨w.heap.size,1,none⟩) (Nat.le_refl _) _).setCell (p:=⟨w.heap.size,2,none⟩) (Nat.le_refl _) _⟩
end
section
open Go.RowKit Go.Sort
theorem and_48 {w:Int} (hw:U64 w):bits .and .u64 w 281474976710655=w % 281474976710656:=by
 obtain⟨m,rfl⟩:=Int.eq_ofNat_of_zero_le hw.1
 have hm:m < 18446744073709551616:=by have:=hw.2;omega
 have h1:=bits_and_u64_nat m 281474976710655 hm (by omega)
 have h2:m &&& 281474976710655=m % 281474976710656:=Nat.and_two_pow_sub_one_eq_mod m 48
 rw[h2] at h1
 refine h1.trans ?_
 omega
theorem boxI (w:World) (i:Id):Below w.heap.size w (w.alloc (.cells #[.int .i64 i.m,.int .i64 i.s] 65)):=(Below.refl _ _).alloc (Nat.le_refl _) _
def encIV (i:Id):Value:=if vI i=true then .tuple #[.int .u64 (eI i),.int .i64 0] else .tuple #[.int .u64 0,.int .i64 1]
theorem EncodeID_any (i:Id) (w:World):Calls Tryz.prog 93 #[i.val] w fun e w'=>e=.returned (encIV i)∧Below w.heap.size w w':=by
 have HB:=lh (boxI w i)
 obtain⟨m,s⟩:=i
 unfold Id.val
 simp only at HB ⊢
 by_cases g0:m < 1
 ·have hk:Hid (encIV ⟨m,s⟩=.tuple #[.int .u64 0,.int .i64 1]):=lh (if_neg fun h=>by have:=(vI_iff _).1 h;simp only at this;omega)
  rw[hk.out]
  go_enter Tryz.func93,Tryz.ntmps93
  go_wp2_with fail
  go_ret2
  exact⟨rfl,HB.out⟩
 have g0:1≤m:=by omega
 by_cases g1:8 < m
 ·have hk:Hid (encIV ⟨m,s⟩=.tuple #[.int .u64 0,.int .i64 1]):=lh (if_neg fun h=>by have:=(vI_iff _).1 h;simp only at this;omega)
  rw[hk.out]
  go_enter Tryz.func93,Tryz.ntmps93
  go_wp2_with fail
  go_ret2
  exact⟨rfl,HB.out⟩
 have g1:m≤8:=by omega
 by_cases g2:s < 1
 ·have hk:Hid (encIV ⟨m,s⟩=.tuple #[.int .u64 0,.int .i64 1]):=lh (if_neg fun h=>by have:=(vI_iff _).1 h;simp only at this;omega)
  rw[hk.out]
  go_enter Tryz.func93,Tryz.ntmps93
  go_wp2_with fail
  go_ret2
  exact⟨rfl,HB.out⟩
 have g2:1≤s:=by omega
 by_cases g3:1099511627775 < s
 ·have hk:Hid (encIV ⟨m,s⟩=.tuple #[.int .u64 0,.int .i64 1]):=lh (if_neg fun h=>by have:=(vI_iff _).1 h;simp only at this;omega)
  rw[hk.out]
  go_enter Tryz.func93,Tryz.ntmps93
  go_wp2_with fail
  go_ret2
  exact⟨rfl,HB.out⟩
 have g3:s≤1099511627775:=by omega
 have hk:Hid (encIV ⟨m,s⟩=.tuple #[.int .u64 (m*281474976710656+s),.int .i64 0]):=lh (if_pos ((vI_iff _).2 ⟨g0,g1,g2,g3⟩))
 rw[hk.out]
 go_enter Tryz.func93,Tryz.ntmps93
 go_wp2_with fail
 go_ret2
 exact⟨rfl,HB.out⟩
theorem RValidID_any (i:Id) (w:World):Calls Tryz.prog 99 #[i.val] w fun e w'=>e=.returned (.bool (vI i))∧Below w.heap.size w w':=by
 have HB:=lh (boxI w i)
 obtain⟨m,s⟩:=i
 unfold Id.val
 simp only at HB ⊢
 by_cases g0:m < 1
 ·have hk:Hid (vI ⟨m,s⟩=false):=lh (Bool.eq_false_iff.2 fun h=>by have:=(vI_iff _).1 h;simp only at this;omega)
  go_enter Tryz.func99,Tryz.ntmps99
  go_wp2_with fail
  go_ret
  exact⟨ret_bool hk.out.symm,HB.out⟩
 have g0:1≤m:=by omega
 by_cases g1:8 < m
 ·have hk:Hid (vI ⟨m,s⟩=false):=lh (Bool.eq_false_iff.2 fun h=>by have:=(vI_iff _).1 h;simp only at this;omega)
  go_enter Tryz.func99,Tryz.ntmps99
  go_wp2_with fail
  go_ret
  exact⟨ret_bool hk.out.symm,HB.out⟩
 have g1:m≤8:=by omega
 by_cases g2:s < 1
 ·have hk:Hid (vI ⟨m,s⟩=false):=lh (Bool.eq_false_iff.2 fun h=>by have:=(vI_iff _).1 h;simp only at this;omega)
  go_enter Tryz.func99,Tryz.ntmps99
  go_wp2_with fail
  go_ret
  exact⟨ret_bool hk.out.symm,HB.out⟩
 have g2:1≤s:=by omega
 by_cases g3:1099511627775 < s
 ·have hk:Hid (vI ⟨m,s⟩=decide (s≤1099511627775)):=lh (by rw[decide_eq_false (show ¬ s≤1099511627775 by omega)];exact Bool.eq_false_iff.2 fun h=>by have:=(vI_iff _).1 h;simp only at this;omega)
  go_enter Tryz.func99,Tryz.ntmps99
  go_wp2_with fail
  go_ret
  exact⟨ret_bool hk.out.symm,HB.out⟩
 have g3:s≤1099511627775:=by omega
 have hk:Hid (vI ⟨m,s⟩=true):=lh ((vI_iff _).2 ⟨g0,g1,g2,g3⟩)
 go_enter Tryz.func99,Tryz.ntmps99
 go_wp2_with fail
 go_ret
 exact⟨ret_bool hk.out.symm,HB.out⟩
theorem REncodeID_any (i:Id) (w:World):Calls Tryz.prog 126 #[i.val] w fun e w'=>e=.returned (encIV i)∧Below w.heap.size w w':=by
 have HB:=lh (boxI w i)
 have cV:=RValidID_any i (w.alloc (.cells #[.int .i64 i.m,.int .i64 i.s] 65))
 unfold encIV
 cases hv:vI i with
 | false =>
  rw[if_neg (by simp)]
  simp only[hv] at cV
  clear hv
  obtain⟨m,s⟩:=i
  unfold Id.val at cV ⊢
  simp only at HB cV ⊢
  go_enter Tryz.func126,Tryz.ntmps126
  go_wp2_with fail
  refine cV.mono ?_
  rintro e w1 ⟨rfl,hb⟩
  have HB2:=lh (HB.out.trans (hb.mono HB.out.size))
  clear hb
  go_wp2_with fail
  go_ret2
  exact⟨rfl,HB2.out⟩
 | true =>
  rw[if_pos rfl]
  simp only[hv] at cV
  obtain⟨g0,g1,g2,g3⟩:=(vI_iff i).1 hv
  clear hv
  obtain⟨m,s⟩:=i
  unfold Id.val at cV ⊢
  simp only at HB cV g0 g1 g2 g3 ⊢
  go_enter Tryz.func126,Tryz.ntmps126
  go_wp2_with fail
  refine cV.mono ?_
  rintro e w1 ⟨rfl,hb⟩
  have HB2:=lh (HB.out.trans (hb.mono HB.out.size))
  have c0:=box_kept hb 0
  have c1:=box_kept hb 1
  simp only[List.getElem?_toArray,List.getElem?_cons_zero,List.getElem?_cons_succ] at c0 c1
  clear hb
  go_wp2_with fail
  go_ret2
  exact⟨rfl,HB2.out⟩
set_option maxHeartbeats 1000000 in
theorem DecodeID_any {x:Int} (hx:U64 x) (w:World):Calls Tryz.prog 72 #[.int .u64 x] w fun e w'=>e=.returned (dI x).val∧Below w.heap.size w w':=by
 have hx0:=hx.1
 have hx1:=hx.2
 obtain⟨m,hm⟩:∃ m,m=x / 281474976710656:=⟨_,rfl⟩
 obtain⟨s,hs⟩:∃ s,s=x % 281474976710656:=⟨_,rfl⟩
 have q0:x / 281474976710656=m:=hm.symm
 have q1:=and_48 hx
 rw[← hs] at q1
 have m0:0≤m:=by omega
 have m1:m < 65536:=by omega
 have s0:0≤s:=by omega
 have s1:s < 281474976710656:=by omega
 have HD:Hid ((dI x).val=if vI ⟨m,s⟩=true then .agg #[.int .i64 m,.int .i64 s] else .agg #[.int .i64 0,.int .i64 0]):=lh (by
  unfold dI
  rw[← hm,← hs]
  by_cases h:vI ⟨m,s⟩=true
  ·rw[if_pos h,if_pos h];rfl
  ·rw[if_neg h,if_neg h];rfl)
 have HB:Hid (Below w.heap.size w ((w.alloc (.cells #[.int .i64 0,.int .i64 0] 65)).alloc (.cells #[.int .i64 m,.int .i64 s] 65))):=lh (((Below.refl _ _).alloc (Nat.le_refl _) _).alloc (by simp) _)
 have cE:=EncodeID_any ⟨m,s⟩ ((w.alloc (.cells #[.int .i64 0,.int .i64 0] 65)).alloc (.cells #[.int .i64 m,.int .i64 s] 65))
 have HZ:Hid (Bk ((w.alloc (.cells #[.int .i64 0,.int .i64 0] 65)).alloc (.cells #[.int .i64 m,.int .i64 s] 65)) w.heap.size 65 #[.int .i64 0,.int .i64 0]):=lh ((Bk.new _ _ _).alloc _)
 have hy:Bk ((w.alloc (.cells #[.int .i64 0,.int .i64 0] 65)).alloc (.cells #[.int .i64 m,.int .i64 s] 65)) (w.heap.size+1) 65 #[.int .i64 m,.int .i64 s]:=by
  have:=Bk.new (w.alloc (.cells #[.int .i64 0,.int .i64 0] 65)) 65 #[.int .i64 m,.int .i64 s]
  simpa using this
 have HY:=lh hy
 unfold encIV at cE
 unfold Id.val at cE
 clear hy hm hs
 rw[HD.out]
 cases hv:vI ⟨m,s⟩ with
 | false =>
  simp only[hv,Bool.false_eq_true,if_false] at cE ⊢
  clear hv HD
  go_enter Tryz.func72,Tryz.ntmps72
  go_wp2_with fail
  refine cE.mono ?_
  rintro e w1 ⟨rfl,hb⟩
  have HB2:=lh (HB.out.trans (hb.mono HB.out.size))
  have hz1:=HZ.out.below hb HZ.out.lt
  have hy1:=HY.out.below hb HY.out.lt
  have z0:w1.cell? ⟨w.heap.size,0,none⟩=some (.int .i64 0):=hz1.cell 0
  have z1:w1.cell? ⟨w.heap.size,1,none⟩=some (.int .i64 0):=hz1.cell 1
  have y0:w1.frozen? ⟨w.heap.size,0,none⟩=false:=hz1.free 0
  have y1:w1.frozen? ⟨w.heap.size,1,none⟩=false:=hz1.free 1
  have v0:w1.cell? ⟨w.heap.size+1,0,none⟩=some (.int .i64 m):=hy1.cell 0
  have v1:w1.cell? ⟨w.heap.size+1,1,none⟩=some (.int .i64 s):=hy1.cell 1
  clear hb hz1 hy1
  go_wp2_with fail
  exact bodyPost_ret (v:=.agg #[.int .i64 0,.int .i64 0]) (by simp[results,Tryz.results72,go_sem,z0,z1]) rfl ⟨rfl,(HB2.out.setCell (p:=⟨w.heap.size,0,none⟩) (Nat.le_refl _) _).setCell (p:=⟨w.heap.size,1,none⟩) (Nat.le_refl _) _⟩
 | true =>
  simp only[hv,if_true] at cE ⊢
  clear hv HD
  go_enter Tryz.func72,Tryz.ntmps72
  go_wp2_with fail
  refine cE.mono ?_
  rintro e w1 ⟨rfl,hb⟩
  have HB2:=lh (HB.out.trans (hb.mono HB.out.size))
  have hz1:=HZ.out.below hb HZ.out.lt
  have hy1:=HY.out.below hb HY.out.lt
  have z0:w1.cell? ⟨w.heap.size,0,none⟩=some (.int .i64 0):=hz1.cell 0
  have z1:w1.cell? ⟨w.heap.size,1,none⟩=some (.int .i64 0):=hz1.cell 1
  have y0:w1.frozen? ⟨w.heap.size,0,none⟩=false:=hz1.free 0
  have y1:w1.frozen? ⟨w.heap.size,1,none⟩=false:=hz1.free 1
  have v0:w1.cell? ⟨w.heap.size+1,0,none⟩=some (.int .i64 m):=hy1.cell 0
  have v1:w1.cell? ⟨w.heap.size+1,1,none⟩=some (.int .i64 s):=hy1.cell 1
  clear hb hz1 hy1
  go_wp2_with fail
  exact bodyPost_ret (v:=.agg #[.int .i64 m,.int .i64 s]) (by simp[results,Tryz.results72,go_sem,z0,z1]) rfl ⟨rfl,(HB2.out.setCell (p:=⟨w.heap.size,0,none⟩) (Nat.le_refl _) _).setCell (p:=⟨w.heap.size,1,none⟩) (Nat.le_refl _) _⟩
set_option maxHeartbeats 1000000 in
theorem RDecodeID_any {x:Int} (hx:U64 x) (w:World):Calls Tryz.prog 50 #[.int .u64 x] w fun e w'=>e=.returned (dI x).val∧Below w.heap.size w w':=by
 have hx0:=hx.1
 have hx1:=hx.2
 obtain⟨m,hm⟩:∃ m,m=x / 281474976710656:=⟨_,rfl⟩
 obtain⟨s,hs⟩:∃ s,s=x % 281474976710656:=⟨_,rfl⟩
 have q0:x / 281474976710656=m:=hm.symm
 have q1:x % 281474976710656=s:=hs.symm
 have m0:0≤m:=by omega
 have m1:m < 65536:=by omega
 have s0:0≤s:=by omega
 have s1:s < 281474976710656:=by omega
 have HD:Hid ((dI x).val=if vI ⟨m,s⟩=true then .agg #[.int .i64 m,.int .i64 s] else .agg #[.int .i64 0,.int .i64 0]):=lh (by
  unfold dI
  rw[← hm,← hs]
  by_cases h:vI ⟨m,s⟩=true
  ·rw[if_pos h,if_pos h];rfl
  ·rw[if_neg h,if_neg h];rfl)
 have HB:Hid (Below w.heap.size w ((w.alloc (.cells #[.int .i64 0,.int .i64 0] 65)).alloc (.cells #[.int .i64 m,.int .i64 s] 65))):=lh (((Below.refl _ _).alloc (Nat.le_refl _) _).alloc (by simp) _)
 have cE:=RValidID_any ⟨m,s⟩ ((w.alloc (.cells #[.int .i64 0,.int .i64 0] 65)).alloc (.cells #[.int .i64 m,.int .i64 s] 65))
 have HZ:Hid (Bk ((w.alloc (.cells #[.int .i64 0,.int .i64 0] 65)).alloc (.cells #[.int .i64 m,.int .i64 s] 65)) w.heap.size 65 #[.int .i64 0,.int .i64 0]):=lh ((Bk.new _ _ _).alloc _)
 have hy:Bk ((w.alloc (.cells #[.int .i64 0,.int .i64 0] 65)).alloc (.cells #[.int .i64 m,.int .i64 s] 65)) (w.heap.size+1) 65 #[.int .i64 m,.int .i64 s]:=by
  have:=Bk.new (w.alloc (.cells #[.int .i64 0,.int .i64 0] 65)) 65 #[.int .i64 m,.int .i64 s]
  simpa using this
 have HY:=lh hy
 unfold Id.val at cE
 clear hy hm hs
 rw[HD.out]
 cases hv:vI ⟨m,s⟩ with
 | false =>
  simp only[hv,Bool.false_eq_true,if_false] at cE ⊢
  clear hv HD
  go_enter Tryz.func50,Tryz.ntmps50
  go_wp2_with fail
  refine cE.mono ?_
  rintro e w1 ⟨rfl,hb⟩
  have HB2:=lh (HB.out.trans (hb.mono HB.out.size))
  have hz1:=HZ.out.below hb HZ.out.lt
  have hy1:=HY.out.below hb HY.out.lt
  have z0:w1.cell? ⟨w.heap.size,0,none⟩=some (.int .i64 0):=hz1.cell 0
  have z1:w1.cell? ⟨w.heap.size,1,none⟩=some (.int .i64 0):=hz1.cell 1
  have y0:w1.frozen? ⟨w.heap.size,0,none⟩=false:=hz1.free 0
  have y1:w1.frozen? ⟨w.heap.size,1,none⟩=false:=hz1.free 1
  have v0:w1.cell? ⟨w.heap.size+1,0,none⟩=some (.int .i64 m):=hy1.cell 0
  have v1:w1.cell? ⟨w.heap.size+1,1,none⟩=some (.int .i64 s):=hy1.cell 1
  clear hb hz1 hy1
  go_wp2_with fail
  exact bodyPost_ret (v:=.agg #[.int .i64 0,.int .i64 0]) (by simp[results,Tryz.results50,go_sem,z0,z1]) rfl ⟨rfl,(HB2.out.setCell (p:=⟨w.heap.size,0,none⟩) (Nat.le_refl _) _).setCell (p:=⟨w.heap.size,1,none⟩) (Nat.le_refl _) _⟩
 | true =>
  simp only[hv,if_true] at cE ⊢
  clear hv HD
  go_enter Tryz.func50,Tryz.ntmps50
  go_wp2_with fail
  refine cE.mono ?_
  rintro e w1 ⟨rfl,hb⟩
  have HB2:=lh (HB.out.trans (hb.mono HB.out.size))
  have hz1:=HZ.out.below hb HZ.out.lt
  have hy1:=HY.out.below hb HY.out.lt
  have z0:w1.cell? ⟨w.heap.size,0,none⟩=some (.int .i64 0):=hz1.cell 0
  have z1:w1.cell? ⟨w.heap.size,1,none⟩=some (.int .i64 0):=hz1.cell 1
  have y0:w1.frozen? ⟨w.heap.size,0,none⟩=false:=hz1.free 0
  have y1:w1.frozen? ⟨w.heap.size,1,none⟩=false:=hz1.free 1
  have v0:w1.cell? ⟨w.heap.size+1,0,none⟩=some (.int .i64 m):=hy1.cell 0
  have v1:w1.cell? ⟨w.heap.size+1,1,none⟩=some (.int .i64 s):=hy1.cell 1
  clear hb hz1 hy1
  go_wp2_with fail
  exact bodyPost_ret (v:=.agg #[.int .i64 m,.int .i64 s]) (by simp[results,Tryz.results50,go_sem,z0,z1]) rfl ⟨rfl,(HB2.out.setCell (p:=⟨w.heap.size,0,none⟩) (Nat.le_refl _) _).setCell (p:=⟨w.heap.size,1,none⟩) (Nat.le_refl _) _⟩
end
section
open Go.RowKit Go.Sort
def chV (x kind:Int):Value:=match dH x with
 | none=>.tuple #[.int .u64 0,.int .i64 11]
 | some h=>if kind=3 ∨ kind=4 then .tuple #[.int .u64 (eH ⟨kind,h.c,h.f⟩),.int .i64 0] else .tuple #[.int .u64 0,.int .i64 1]
theorem vH_change {h:Hdr} (hv:vH h=true) {kind:Int} (hk:kind=3 ∨ kind=4):vH ⟨kind,h.c,h.f⟩=true:=by
 have:=(vH_iff h).1 hv
 refine(vH_iff _).2 ?_
 simp only
 omega
set_option maxHeartbeats 1000000 in
theorem RChange_any {x:Int} (hx:U64 x) (kind:Int) (w:World):Calls Tryz.prog 127 #[.int .u64 x,.int .i64 kind] w fun e w'=>e=.returned (chV x kind)∧Below w.heap.size w w':=by
 have cD:=RDecode_any hx w
 unfold decV at cD
 unfold chV
 cases hd:dH x with
 | none =>
  simp only[hd,Hdr.zero,Hdr.val] at cD ⊢
  clear hd
  go_enter Tryz.func127,Tryz.ntmps127
  go_wp2_with fail
  refine cD.mono ?_
  rintro e w1 ⟨rfl,hb⟩
  have HB:=lh (hb.alloc hb.size (.cells #[.int .i64 0,.int .i64 0,.int .i64 0] 58))
  clear hb
  go_wp2_with fail
  go_ret2
  exact⟨rfl,HB.out⟩
 | some h =>
  obtain⟨hv,_⟩:=dH_some hd
  simp only[hd] at cD ⊢
  clear hd
  by_cases hk:kind=3 ∨ kind=4
  ·rw[if_pos hk]
   have hv2:=vH_change hv hk
   obtain⟨k,c,f⟩:=h
   unfold Hdr.val at cD
   simp only at hv2 cD ⊢
   have cE:=fun w=>REncode_any ⟨kind,c,f⟩ w
   unfold encV at cE
   simp only[hv2,if_true] at cE
   unfold Hdr.val at cE
   simp only at cE
   obtain⟨y,hy⟩:∃ y,y=eH ⟨kind,c,f⟩:=⟨_,rfl⟩
   rw[← hy] at cE ⊢
   have hn:(kind != 3 && kind != 4)=false:=by rcases hk with rfl | rfl <;> rfl
   clear hv hv2 hy
   rcases hk with rfl | rfl
   all_goals
    go_enter Tryz.func127,Tryz.ntmps127
    go_wp2_with fail
    refine cD.mono ?_
    rintro e w1 ⟨rfl,hb⟩
    have HB:=lh hb
    clear hb
    go_wp2_with fail
    refine(cE _).mono ?_
    rintro e w2 ⟨rfl,hb2⟩
    have HB2:=lh ((HB.out.alloc HB.out.size _).trans (hb2.mono (by have:=HB.out.size;simp;omega)))
    clear hb2
    go_wp2_with fail
    go_ret2
    exact⟨rfl,HB2.out⟩
  ·rw[if_neg hk]
   have h3:(kind != 3)=true:=by simp;omega
   have h4:(kind != 4)=true:=by simp;omega
   obtain⟨k,c,f⟩:=h
   unfold Hdr.val at cD
   simp only at cD ⊢
   clear hv hk
   go_enter Tryz.func127,Tryz.ntmps127
   go_wp2_with fail
   refine cD.mono ?_
   rintro e w1 ⟨rfl,hb⟩
   have HB:=lh (hb.alloc hb.size (.cells #[.int .i64 k,.int .i64 c,.int .i64 f] 58))
   clear hb
   go_wp2_with fail
   go_ret2
   exact⟨rfl,HB.out⟩
end
end Go.Proofs.YtaijmgkjbbiboaaGreat
