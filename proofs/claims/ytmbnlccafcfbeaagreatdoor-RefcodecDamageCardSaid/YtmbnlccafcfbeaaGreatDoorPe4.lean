/- Parts of the proof: Wire8. -/
import Derived.Laws.BytesArg
import Derived.Test.YtmbnlccafcfbeaaGreatDoorPeA
import Derived.Test.YtmbnlccafcfbeaaGreatDoorPe3
set_option linter.unusedVariables false
set_option linter.unusedSimpArgs false
set_option linter.unusedSectionVars false
set_option maxRecDepth 100000
namespace Go.Proofs.YtmbnlccafcfbeaaGreatDoor
section
open Go.RowKit
attribute [local go_sem] Oper.semAt_some
theorem stg_no {α:Type} {L:Array Bool} {i:Nat} (x y:α) (h:L.getD i false=false):stg L i x y=x:=by unfold stg;rw[if_neg (by rw[h];simp)]
theorem stg_fact {α:Type} (p:α→Prop) {L:Array Bool} {i:Nat} {x y:α} (hx:p x) (hy:p y):p (stg L i x y):=by unfold stg;split;exact hy;exact hx
theorem enter_string1 (args:Array Value) (w:World):(callFunc 156 args).run Tryz.prog w=.ok (.enter 156 args) w:=by go_simp
theorem enter_bool1 (args:Array Value) (w:World):(callFunc 160 args).run Tryz.prog w=.ok (.enter 160 args) w:=by go_simp
theorem conv_txt {w:World} {A:Option Addr} {b:List Int} {N c:Nat} (hs:Sl w 1 A b.length (byts b)) (hA:∀ x,A=some x→x.spot=none) (hN:N≤b.length):(convert 45 9 (.slice A N c)).run Tryz.prog w=.ok (.string (txt (b.take N))) w:=by
 cases A with
 | none =>
  have h0:b.length=0:=by
   rcases hs.2 with h | ⟨_,_,e,_⟩
   ·exact h
   ·cases e
  rw[run_convert_bytes_nil w _ 5 Tryz.underlying45 Tryz.underlying5 N c _ Tryz.underlying9,show b=[] from List.length_eq_zero_iff.1 h0]
  rw[List.take_nil]
  rfl
 | some x =>
  obtain⟨bb,o,sp⟩:=x
  have hsp:=hA _ rfl
  dsimp only at hsp
  subst hsp
  have h:=run_convert_bytes_arg (P:=Tryz.prog) w 45 5 Tryz.underlying45 Tryz.underlying5 bb o N c (b.take N) (by rw[List.length_take];omega) (fun i hi=>by
   rcases hs.2 with h0 | ⟨b',o',e,_,hc⟩
   ·omega
   ·cases e
    have hx:b[i]?=some (b[i]'(by omega)):=List.getElem?_eq_getElem _
    rw[hc i _ (by unfold byts;rw[List.getElem?_map,hx];rfl)]
    simp[List.getD,List.getElem?_take,hi,hx]) _ Tryz.underlying9
  rw[h]
  rfl
section
variable {w:World} {g bb p q s c N:Nat} {A:Option Addr} {b:List Int} {n:Int}
theorem String1_big (hq:Bk w q 22 #[.int .u64 n]) (hn:4096 < n):Calls Tryz.prog 156 #[.pointer (some ⟨q,0,none⟩),.pointer (some ⟨p,0,none⟩),.pointer (some ⟨s,0,none⟩)] w fun e w1=>e=.returned (.int .i64 8)∧Below w.heap.size w w1:=by
 have q0:w.cell? ⟨q,0,none⟩=some (.int .u64 n):=hq.cell 0
 clear hq
 go_enter Tryz.func156,Tryz.ntmps156
 go_wp2_with fail
 go_ret
 exact⟨rfl,Below.refl _ _⟩
theorem String1_bad (h:RdR w g bb ⟨b,0⟩ A c) (hq:Bk w q 22 #[.int .u64 n]) (hp:Bk w p 79 #[.pointer (some ⟨g,0,none⟩)]) (hn:n≤4096) (hl:(b.length:Int) < n):Calls Tryz.prog 156 #[.pointer (some ⟨q,0,none⟩),.pointer (some ⟨p,0,none⟩),.pointer (some ⟨s,0,none⟩)] w fun e w1=>e=.returned (.int .i64 11)∧Below w.heap.size w w1:=by
 have q0:w.cell? ⟨q,0,none⟩=some (.int .u64 n):=hq.cell 0
 have p0:w.cell? ⟨p,0,none⟩=some (.pointer (some ⟨g,0,none⟩)):=hp.cell 0
 have r0:w.cell? ⟨g,0,none⟩=some (.slice A b.length c):=h.bk.cell 0
 have hw2:IntKind.u64.wrap (b.length:Int)=(b.length:Int):=by rw[IntKind.wrap_u64];omega
 have d2:decide (n > (b.length:Int))=true:=decide_eq_true (by omega)
 have HB:Hid (∀ k,Below w.heap.size w (w.drewN k)):=lh fun k=>below_drewN (Below.refl _ _) k
 clear hq hp h
 go_enter Tryz.func156,Tryz.ntmps156
 go_upto_region 3 with fail
 go_quiet (fail)
 go_wp2_with fail
 go_ret
 exact⟨rfl,HB.out _⟩
set_option maxHeartbeats 8000000 in
theorem String1_ok (h:RdR w g bb ⟨b,0⟩ A c) (hq:Bk w q 22 #[.int .u64 (N:Int)]) (hp:Bk w p 79 #[.pointer (some ⟨g,0,none⟩)]) (hs:Bk w s 9 #[.string ⟨#[]⟩]) (hsb:s≠bb) (hn:N≤4096) (hl:N≤b.length):Calls Tryz.prog 156 #[.pointer (some ⟨q,0,none⟩),.pointer (some ⟨p,0,none⟩),.pointer (some ⟨s,0,none⟩)] w fun e w1=>e=.returned (.int .i64 0)∧RdX w1 g bb ⟨b.drop N,0⟩∧(Bk w1 s 9 #[.string (txt (b.take N))]∧Kp (fun k=>k=g ∨ k=s) w w1):=by
 have hcm:=h.cm
 have hcp:=h.cap
 dsimp only at hcp
 have q0:w.cell? ⟨q,0,none⟩=some (.int .u64 (N:Int)):=hq.cell 0
 have p0:w.cell? ⟨p,0,none⟩=some (.pointer (some ⟨g,0,none⟩)):=hp.cell 0
 have r0:w.cell? ⟨g,0,none⟩=some (.slice A b.length c):=h.bk.cell 0
 have hw2:IntKind.u64.wrap (b.length:Int)=(b.length:Int):=by rw[IntKind.wrap_u64];omega
 have d1:decide ((N:Int) > 4096)=false:=decide_eq_false (by omega)
 have d2:decide ((N:Int) > (b.length:Int))=false:=decide_eq_false (by omega)
 have d3:decide (b.length < N)=false:=decide_eq_false (by omega)
 have HNE:Hid (g≠s∧p≠s∧q≠s∧p≠g∧q≠g):=lh (by
  have hb:=h.bk
  unfold Bk at hs hp hq hb
  refine⟨fun e=>?_,fun e=>?_,fun e=>?_,fun e=>?_,fun e=>?_⟩
  ·rw[e,hs] at hb;cases hb
  ·rw[e,hs] at hp;cases hp
  ·rw[e,hs] at hq;cases hq
  ·rw[e,hb] at hp;cases hp
  ·rw[e,hb] at hq;cases hq)
 have hsp:∀ x,A=some x→x.spot=none:=fun x hx=>by
  obtain⟨b',o',m'⟩:=x
  exact(h.at_ b' o' m' hx).2
 have H:=lh h
 have HQ:=lh (And.intro hq (And.intro hp hs))
 have HSP:=lh hsp
 clear hq hp hs h hsp
 go_enter Tryz.func156,Tryz.ntmps156
 go_upto_region 3 with fail
 go_quiet (fail)
 obtain⟨W,hW⟩:∃ W,W=w.drewN nq:=⟨_,rfl⟩
 have HKW:Hid (Kp (fun _=>False) w W):=lh (by rw[hW];exact⟨rfl,rfl,rfl,Nat.le_refl _,fun _ _ _=>rfl⟩)
 rw[← hW]
 have HR:=lh (H.out.kp HKW.out (fun h=>h) (fun h=>h))
 have HQW:=lh (HQ.out.1.kp HKW.out (fun h=>h))
 have HPW:=lh (HQ.out.2.1.kp HKW.out (fun h=>h))
 have HSW:=lh (HQ.out.2.2.kp HKW.out (fun h=>h))
 have hq1:W.cell? ⟨q,0,none⟩=some (.int .u64 (N:Int)):=HQW.out.cell 0
 clear hW q0 p0 r0
 go_upto_region 5 with fail
 have hcv:∀ W':World,(∀ x,A=some x→W'.heap[bb]?=W.heap[bb]?)→(convert 45 9 (.slice A N c)).run Tryz.prog W'=.ok (.string (txt (b.take N))) W':=fun W' hW'=>conv_txt (by
  refine⟨HR.out.sl.1,?_⟩
  rcases HR.out.sl.2 with h0 | ⟨b',o',e,hbl,hc⟩
  ·exact .inl h0
  ·obtain⟨rfl,_⟩:=HR.out.at_ _ _ _ e
   have he:=hW' _ e
   refine .inr ⟨b',o',e,?_,fun j x hx=>(World.cell?_of_block (a:=⟨b',o'+j,none⟩) he).trans (hc j x hx)⟩
   have h1:W.heap[b']?.isSome=true:=by simp[hbl]
   rw[← he] at h1
   simpa using h1) HSP.out hl
 have HCV:=lh hcv
 obtain⟨W1,hW1⟩:∃ W1,W1=W.drew.setCell ⟨s,0,none⟩ (.string (txt (b.take N))):=⟨_,rfl⟩
 have HW1:=lh hW1
 have hg0:W.drew.cell? ⟨g,0,none⟩=some (.slice A b.length c):=HR.out.bk.cell 0
 have hp0:W.drew.cell? ⟨p,0,none⟩=some (.pointer (some ⟨g,0,none⟩)):=HPW.out.cell 0
 have hq0:W.drew.cell? ⟨q,0,none⟩=some (.int .u64 (N:Int)):=HQW.out.cell 0
 have hs0:W.drew.cell? ⟨s,0,none⟩=some (.string ⟨#[]⟩):=HSW.out.cell 0
 have hsf:W.drew.frozen? ⟨s,0,none⟩=false:=HSW.out.free 0
 have hrb:Bk W.drew g 103 #[.slice A b.length c,.int .i64 0]:=HR.out.bk
 have hpb:Bk W.drew p 79 #[.pointer (some ⟨g,0,none⟩)]:=HPW.out
 have hqb:Bk W.drew q 22 #[.int .u64 (N:Int)]:=HQW.out
 have hsb':Bk W.drew s 9 #[.string ⟨#[]⟩]:=HSW.out
 have hr1:=hrb.far (p:=⟨s,0,none⟩) HNE.out.1 (.string (txt (b.take N)))
 have hg1:W1.cell? ⟨g,0,none⟩=some (.slice A b.length c):=by rw[hW1];exact hr1.cell 0
 have hgf:W1.frozen? ⟨g,0,none⟩=false:=by rw[hW1];exact hr1.free 0
 have hp1:W1.cell? ⟨p,0,none⟩=some (.pointer (some ⟨g,0,none⟩)):=by rw[hW1];exact(hpb.far (p:=⟨s,0,none⟩) HNE.out.2.1 _).cell 0
 have hq1':W1.cell? ⟨q,0,none⟩=some (.int .u64 (N:Int)):=by rw[hW1];exact(hqb.far (p:=⟨s,0,none⟩) HNE.out.2.2.1 _).cell 0
 have HF:=lh (And.intro hg0 (And.intro hp0 (And.intro hq0 (And.intro hg1 (And.intro hp1 (And.intro hq1' (And.intro hs0 (And.intro hsf hgf))))))))
 have HB1:Hid (Bk W1 g 103 #[.slice A b.length c,.int .i64 0]∧Bk W1 s 9 #[.string (txt (b.take N))]∧Kp (fun k=>k=s) w W1):=lh ⟨by rw[hW1];exact hr1,by rw[hW1];exact hsb'.set 0 _,by
  rw[hW1]
  exact(HKW.out.drew.mono (T:=fun k=>k=s) fun _ _ h=>h.elim).trans (Kp.setCell (S:=fun k=>k=s) _ ⟨s,0,none⟩ _ rfl) fun _ _ h=>h⟩
 have hcvW:∀ W',W'=stg (Array.replicate 1 false) 0 W.drew W1 ∨ W'=W1 ∨ W'=W.drew→(convert 45 9 (.slice A N c)).run Tryz.prog W'=.ok (.string (txt (b.take N))) W':=fun W' hW'=>by
  have h0:W'=W1 ∨ W'=W.drew:=by
   rcases hW' with h | h
   ·exact .inr h
   ·exact h
  refine HCV.out W' fun x hx=>?_
  obtain⟨b',o',m'⟩:=x
  rcases h0 with h | h
  ·rw[h,hW1]
   exact Below.heap_setCell _ _ _ _ (fun e=>hsb (by have:=(HR.out.at_ _ _ _ hx).1;exact e.symm))
  ·rw[h]
   rfl
 have HCW:=lh hcvW
 have hN63:IntKind.i64.wrap (N:Int)=(N:Int):=IntWalk.i64_in _ (by omega)
 have hu0:0≤(N:Int):=by omega
 have hNc:N≤c:=by omega
 clear hcv hW1 hg0 hp0 hq0 hs0 hsf hrb hpb hqb hsb' hr1 hg1 hgf hp1 hq1' hcvW hq1
 have HSL:=lh HR.out.sl
 have HAT:=lh HR.out.at_
 have HNZ:=lh HR.out.nz
 obtain⟨S,hS⟩:∃ S,S=txt (b.take N):=⟨_,rfl⟩
 rw[← hS] at HB1 HW1 HCW
 have HS:=lh hS
 clear hS HR HCV
 have hbA:A=none∧b=[]∧c=0∧N=0 ∨ ∃ o,A=some ⟨bb,o,none⟩:=by
  cases A with
  | none =>
   have hc0:=HNZ.out rfl
   have hb0:b.length=0:=by omega
   exact .inl ⟨rfl,List.length_eq_zero_iff.1 hb0,hc0,by omega⟩
  | some x =>
   obtain⟨b',o',m'⟩:=x
   obtain⟨e1,e2⟩:=HAT.out b' o' m' rfl
   exact .inr ⟨o',by rw[e1,e2]⟩
 rcases hbA with ⟨rfl,rfl,rfl,rfl⟩ | ⟨o,rfl⟩
 ·obtain⟨W2,hW2⟩:∃ W2,W2=W1.setCell ⟨g,0,none⟩ (.slice none 0 0):=⟨_,rfl⟩
  have HW2:=lh hW2
  have hg0:W.drew.cell? ⟨g,0,none⟩=some (.slice none 0 0):=HF.out.1
  have hp0:=HF.out.2.1
  have hq0:W.drew.cell? ⟨q,0,none⟩=some (.int .u64 0):=HF.out.2.2.1
  have hg1:W1.cell? ⟨g,0,none⟩=some (.slice none 0 0):=HF.out.2.2.2.1
  have hp1:=HF.out.2.2.2.2.1
  have hq1:W1.cell? ⟨q,0,none⟩=some (.int .u64 0):=HF.out.2.2.2.2.2.1
  have HF2:=lh (And.intro hg0 (And.intro hp0 (And.intro hq0 (And.intro hg1 (And.intro hp1 hq1)))))
  clear hg0 hp0 hq0 hg1 hp1 hq1 hW2
  refine wp_region_invD 18 (fun i=>([[],[],[1],[2],[3],[],[4,5],[6],[],[8],[9],[10],[],[11,12],[7],[0],[15],[13,16]]:List (List Nat)).getD i []) (fun L vs w=>w=stg L 17 (stg L 14 W.drew W1) W2∧Vals ([some (.pointer (some ⟨g,0,none⟩)),some (.pointer (some ⟨g,0,none⟩)),some (.pointer (some ⟨g,0,none⟩)),some (.pointer (some ⟨g,0,none⟩)),some (.slice none 0 0),some (.int .u64 0),some (.slice none 0 0),some (.string S),some (.pointer (some ⟨g,0,none⟩)),some (.pointer (some ⟨g,0,none⟩)),some (.pointer (some ⟨g,0,none⟩)),some (.slice none 0 0),some (.int .u64 0),some (.slice none 0 0),none,some (.pointer (some ⟨g,0,none⟩)),some (.pointer (some ⟨g,0,none⟩)),none]:List (Option Value)) L vs) rfl (by kernel_rfl) (by rfl) (fun vs=>?_) ?_ ?_
  ·refine⟨?_,fun k v _ h=>by rw[getD_replicate_false] at h;cases h⟩
   unfold stg
   rw[getD_replicate_false,getD_replicate_false,if_neg (by simp),if_neg (by simp)]
   all_goals exact rfl
  ·intro i hi o ho L vs w8 hls hun hwt hcl hI
   have hun2:=und' hun
   rcases (show i=0 ∨ i=1 ∨ i=2 ∨ i=3 ∨ i=4 ∨ i=5 ∨ i=6 ∨ i=7 ∨ i=8 ∨ i=9 ∨ i=10 ∨ i=11 ∨ i=12 ∨ i=13 ∨ i=14 ∨ i=15 ∨ i=16 ∨ i=17 by omega) with rfl | rfl | rfl | rfl | rfl | rfl | rfl | rfl | rfl | rfl | rfl | rfl | rfl | rfl | rfl | rfl | rfl | rfl <;> cases ho
   ·have n2:L.getD 17 false=false:=hcl.nd hun2 (by kernel_rfl)
    have hw:w8=stg L 14 W.drew W1:=hI.1.trans (stg_no _ _ n2)
    have ec:w8.cell? ⟨p,0,none⟩=some (.pointer (some ⟨g,0,none⟩)):=by rw[hw];exact stg_fact (fun w:World=>w.cell? ⟨p,0,none⟩=some (.pointer (some ⟨g,0,none⟩):Value)) HF2.out.2.1 HF2.out.2.2.2.2.1
    have hI2:=lh (And.intro hI (And.intro hls hw))
    clear hI hwt hun hun2 hcl hls n2 hw
    change Made _ _ (Sem.run _ (execOp (Act.eval (frm _ _ _ [])) _) _)
    simp only[frm]
    go_simp
    refine made_ok ⟨?_,hI2.out.1.2.put fun x hx=>by cases hx;rfl⟩
    rw[stg_set _ _ (by decide),stg_set _ _ (by decide)]
    exact hI2.out.1.1
   ·have n2:L.getD 17 false=false:=hcl.nd hun2 (by kernel_rfl)
    have hw:w8=stg L 14 W.drew W1:=hI.1.trans (stg_no _ _ n2)
    have ec:w8.cell? ⟨p,0,none⟩=some (.pointer (some ⟨g,0,none⟩)):=by rw[hw];exact stg_fact (fun w:World=>w.cell? ⟨p,0,none⟩=some (.pointer (some ⟨g,0,none⟩):Value)) HF2.out.2.1 HF2.out.2.2.2.2.1
    have hI2:=lh (And.intro hI (And.intro hls hw))
    clear hI hwt hun hun2 hcl hls n2 hw
    change Made _ _ (Sem.run _ (execOp (Act.eval (frm _ _ _ [])) _) _)
    simp only[frm]
    go_simp
    refine made_ok ⟨?_,hI2.out.1.2.put fun x hx=>by cases hx;rfl⟩
    rw[stg_set _ _ (by decide),stg_set _ _ (by decide)]
    exact hI2.out.1.1
   ·have h1:vs 1=.pointer (some ⟨g,0,none⟩):=hI.2 1 _ rfl (hwt 1 (by kernel_rfl))
    have n2:L.getD 17 false=false:=hcl.nd hun2 (by kernel_rfl)
    have hw:w8=stg L 14 W.drew W1:=hI.1.trans (stg_no _ _ n2)
    have hI2:=lh (And.intro hI (And.intro hls hw))
    clear hI hwt hun hun2 hcl hls n2 hw
    change Made _ _ (Sem.run _ (execOp (Act.eval (Act.put (frm _ _ _ []) (some 17) (vs 1))) _) _)
    simp only[frm,h1]
    go_simp
    refine made_ok ⟨?_,hI2.out.1.2.put fun x hx=>by cases hx;rfl⟩
    rw[stg_set _ _ (by decide),stg_set _ _ (by decide)]
    exact hI2.out.1.1
   ·have h2:vs 2=.pointer (some ⟨g,0,none⟩):=hI.2 2 _ rfl (hwt 2 (by kernel_rfl))
    have n2:L.getD 17 false=false:=hcl.nd hun2 (by kernel_rfl)
    have hw:w8=stg L 14 W.drew W1:=hI.1.trans (stg_no _ _ n2)
    have hI2:=lh (And.intro hI (And.intro hls hw))
    clear hI hwt hun hun2 hcl hls n2 hw
    change Made _ _ (Sem.run _ (execOp (Act.eval (Act.put (frm _ _ _ []) (some 18) (vs 2))) _) _)
    simp only[frm,h2]
    go_simp
    refine made_ok ⟨?_,hI2.out.1.2.put fun x hx=>by cases hx;rfl⟩
    rw[stg_set _ _ (by decide),stg_set _ _ (by decide)]
    exact hI2.out.1.1
   ·have h3:vs 3=.pointer (some ⟨g,0,none⟩):=hI.2 3 _ rfl (hwt 3 (by kernel_rfl))
    have n2:L.getD 17 false=false:=hcl.nd hun2 (by kernel_rfl)
    have hw:w8=stg L 14 W.drew W1:=hI.1.trans (stg_no _ _ n2)
    have ec:w8.cell? ⟨g,0,none⟩=some (.slice none 0 0):=by rw[hw];exact stg_fact (fun w:World=>w.cell? ⟨g,0,none⟩=some (.slice none 0 0:Value)) HF2.out.1 HF2.out.2.2.2.1
    have hI2:=lh (And.intro hI (And.intro hls hw))
    clear hI hwt hun hun2 hcl hls n2 hw
    change Made _ _ (Sem.run _ (execOp (Act.eval (Act.put (frm _ _ _ []) (some 19) (vs 3))) _) _)
    simp only[frm,h3]
    go_simp
    refine made_ok ⟨?_,hI2.out.1.2.put fun x hx=>by cases hx;rfl⟩
    rw[stg_set _ _ (by decide),stg_set _ _ (by decide)]
    exact hI2.out.1.1
   ·have n2:L.getD 17 false=false:=hcl.nd hun2 (by kernel_rfl)
    have hw:w8=stg L 14 W.drew W1:=hI.1.trans (stg_no _ _ n2)
    have ec:w8.cell? ⟨q,0,none⟩=some (.int .u64 0):=by rw[hw];exact stg_fact (fun w:World=>w.cell? ⟨q,0,none⟩=some (.int .u64 0:Value)) HF2.out.2.2.1 HF2.out.2.2.2.2.2
    have hI2:=lh (And.intro hI (And.intro hls hw))
    clear hI hwt hun hun2 hcl hls n2 hw
    change Made _ _ (Sem.run _ (execOp (Act.eval (frm _ _ _ [])) _) _)
    simp only[frm]
    go_simp
    refine made_ok ⟨?_,hI2.out.1.2.put fun x hx=>by cases hx;rfl⟩
    rw[stg_set _ _ (by decide),stg_set _ _ (by decide)]
    exact hI2.out.1.1
   ·have h4:vs 4=.slice none 0 0:=hI.2 4 _ rfl (hwt 4 (by kernel_rfl))
    have h5:vs 5=.int .u64 0:=hI.2 5 _ rfl (hwt 5 (by kernel_rfl))
    have n2:L.getD 17 false=false:=hcl.nd hun2 (by kernel_rfl)
    have hw:w8=stg L 14 W.drew W1:=hI.1.trans (stg_no _ _ n2)
    have hI2:=lh (And.intro hI (And.intro hls hw))
    clear hI hwt hun hun2 hcl hls n2 hw
    change Made _ _ (Sem.run _ (execOp (Act.eval (Act.put (Act.put (frm _ _ _ []) (some 21) (vs 5)) (some 20) (vs 4))) _) _)
    simp only[frm,h4,h5]
    go_simp
    refine made_ok ⟨?_,hI2.out.1.2.put fun x hx=>by cases hx;rfl⟩
    rw[stg_set _ _ (by decide),stg_set _ _ (by decide)]
    exact hI2.out.1.1
   ·have h6:vs 6=.slice none 0 0:=hI.2 6 _ rfl (hwt 6 (by kernel_rfl))
    have n2:L.getD 17 false=false:=hcl.nd hun2 (by kernel_rfl)
    have hw:w8=stg L 14 W.drew W1:=hI.1.trans (stg_no _ _ n2)
    have hcw:(convert 45 9 (.slice none 0 0)).run Tryz.prog w8=.ok (.string S) w8:=HCW.out w8 (by rw[hw];unfold stg;split;exact .inr (.inl rfl);exact .inr (.inr rfl))
    have hI2:=lh (And.intro hI (And.intro hls hw))
    clear hI hwt hun hun2 hcl hls n2 hw
    change Made _ _ (Sem.run _ (execOp (Act.eval (Act.put (frm _ _ _ []) (some 22) (vs 6))) _) _)
    simp only[frm,h6]
    go_simp
    refine made_ok ⟨?_,hI2.out.1.2.put fun x hx=>by cases hx;rfl⟩
    rw[stg_set _ _ (by decide),stg_set _ _ (by decide)]
    exact hI2.out.1.1
   ·have n2:L.getD 17 false=false:=hcl.nd hun2 (by kernel_rfl)
    have hw:w8=stg L 14 W.drew W1:=hI.1.trans (stg_no _ _ n2)
    have ec:w8.cell? ⟨p,0,none⟩=some (.pointer (some ⟨g,0,none⟩)):=by rw[hw];exact stg_fact (fun w:World=>w.cell? ⟨p,0,none⟩=some (.pointer (some ⟨g,0,none⟩):Value)) HF2.out.2.1 HF2.out.2.2.2.2.1
    have hI2:=lh (And.intro hI (And.intro hls hw))
    clear hI hwt hun hun2 hcl hls n2 hw
    change Made _ _ (Sem.run _ (execOp (Act.eval (frm _ _ _ [])) _) _)
    simp only[frm]
    go_simp
    refine made_ok ⟨?_,hI2.out.1.2.put fun x hx=>by cases hx;rfl⟩
    rw[stg_set _ _ (by decide),stg_set _ _ (by decide)]
    exact hI2.out.1.1
   ·have h8:vs 8=.pointer (some ⟨g,0,none⟩):=hI.2 8 _ rfl (hwt 8 (by kernel_rfl))
    have n2:L.getD 17 false=false:=hcl.nd hun2 (by kernel_rfl)
    have hw:w8=stg L 14 W.drew W1:=hI.1.trans (stg_no _ _ n2)
    have hI2:=lh (And.intro hI (And.intro hls hw))
    clear hI hwt hun hun2 hcl hls n2 hw
    change Made _ _ (Sem.run _ (execOp (Act.eval (Act.put (frm _ _ _ []) (some 24) (vs 8))) _) _)
    simp only[frm,h8]
    go_simp
    refine made_ok ⟨?_,hI2.out.1.2.put fun x hx=>by cases hx;rfl⟩
    rw[stg_set _ _ (by decide),stg_set _ _ (by decide)]
    exact hI2.out.1.1
   ·have h9:vs 9=.pointer (some ⟨g,0,none⟩):=hI.2 9 _ rfl (hwt 9 (by kernel_rfl))
    have n2:L.getD 17 false=false:=hcl.nd hun2 (by kernel_rfl)
    have hw:w8=stg L 14 W.drew W1:=hI.1.trans (stg_no _ _ n2)
    have hI2:=lh (And.intro hI (And.intro hls hw))
    clear hI hwt hun hun2 hcl hls n2 hw
    change Made _ _ (Sem.run _ (execOp (Act.eval (Act.put (frm _ _ _ []) (some 25) (vs 9))) _) _)
    simp only[frm,h9]
    go_simp
    refine made_ok ⟨?_,hI2.out.1.2.put fun x hx=>by cases hx;rfl⟩
    rw[stg_set _ _ (by decide),stg_set _ _ (by decide)]
    exact hI2.out.1.1
   ·have h10:vs 10=.pointer (some ⟨g,0,none⟩):=hI.2 10 _ rfl (hwt 10 (by kernel_rfl))
    have n2:L.getD 17 false=false:=hcl.nd hun2 (by kernel_rfl)
    have hw:w8=stg L 14 W.drew W1:=hI.1.trans (stg_no _ _ n2)
    have ec:w8.cell? ⟨g,0,none⟩=some (.slice none 0 0):=by rw[hw];exact stg_fact (fun w:World=>w.cell? ⟨g,0,none⟩=some (.slice none 0 0:Value)) HF2.out.1 HF2.out.2.2.2.1
    have hI2:=lh (And.intro hI (And.intro hls hw))
    clear hI hwt hun hun2 hcl hls n2 hw
    change Made _ _ (Sem.run _ (execOp (Act.eval (Act.put (frm _ _ _ []) (some 26) (vs 10))) _) _)
    simp only[frm,h10]
    go_simp
    refine made_ok ⟨?_,hI2.out.1.2.put fun x hx=>by cases hx;rfl⟩
    rw[stg_set _ _ (by decide),stg_set _ _ (by decide)]
    exact hI2.out.1.1
   ·have n2:L.getD 17 false=false:=hcl.nd hun2 (by kernel_rfl)
    have hw:w8=stg L 14 W.drew W1:=hI.1.trans (stg_no _ _ n2)
    have ec:w8.cell? ⟨q,0,none⟩=some (.int .u64 0):=by rw[hw];exact stg_fact (fun w:World=>w.cell? ⟨q,0,none⟩=some (.int .u64 0:Value)) HF2.out.2.2.1 HF2.out.2.2.2.2.2
    have hI2:=lh (And.intro hI (And.intro hls hw))
    clear hI hwt hun hun2 hcl hls n2 hw
    change Made _ _ (Sem.run _ (execOp (Act.eval (frm _ _ _ [])) _) _)
    simp only[frm]
    go_simp
    refine made_ok ⟨?_,hI2.out.1.2.put fun x hx=>by cases hx;rfl⟩
    rw[stg_set _ _ (by decide),stg_set _ _ (by decide)]
    exact hI2.out.1.1
   ·have h11:vs 11=.slice none 0 0:=hI.2 11 _ rfl (hwt 11 (by kernel_rfl))
    have h12:vs 12=.int .u64 0:=hI.2 12 _ rfl (hwt 12 (by kernel_rfl))
    have n2:L.getD 17 false=false:=hcl.nd hun2 (by kernel_rfl)
    have hw:w8=stg L 14 W.drew W1:=hI.1.trans (stg_no _ _ n2)
    have hI2:=lh (And.intro hI (And.intro hls hw))
    clear hI hwt hun hun2 hcl hls n2 hw
    change Made _ _ (Sem.run _ (execOp (Act.eval (Act.put (Act.put (frm _ _ _ []) (some 28) (vs 12)) (some 27) (vs 11))) _) _)
    simp only[frm,h11,h12]
    go_simp
    refine made_ok ⟨?_,hI2.out.1.2.put fun x hx=>by cases hx;rfl⟩
    rw[stg_set _ _ (by decide),stg_set _ _ (by decide)]
    exact hI2.out.1.1
   ·have h7:vs 7=.string S:=hI.2 7 _ rfl (hwt 7 (by kernel_rfl))
    have n2:L.getD 17 false=false:=hcl.nd hun2 (by kernel_rfl)
    have hw:w8=W.drew:=hI.1.trans ((stg_no _ _ n2).trans (stg_no _ _ hun2))
    subst hw
    have es:=HF.out.2.2.2.2.2.2.1
    have ef:=HF.out.2.2.2.2.2.2.2.1
    have hI2:=lh (And.intro hI (And.intro hls n2))
    clear hI hwt hun hun2 hcl hls n2
    change Made _ _ (Sem.run _ (execOp (Act.eval (Act.put (frm _ _ _ []) (some 23) (vs 7))) _) _)
    simp only[frm,h7]
    go_simp
    refine made_skip ⟨?_,hI2.out.1.2.put fun x hx=>by cases hx⟩
    rw[stg_set _ _ (by decide),stg_no _ _ hI2.out.2.2,stg_new _ _ (by rw[hI2.out.2.1];decide)]
    exact HW1.out.symm
   ·have h0:vs 0=.pointer (some ⟨g,0,none⟩):=hI.2 0 _ rfl (hwt 0 (by kernel_rfl))
    have n16_:L.getD 16 false=false:=hcl.nd hun2 (by kernel_rfl)
    have n2:L.getD 17 false=false:=hcl.nd n16_ (by kernel_rfl)
    have hw:w8=stg L 14 W.drew W1:=hI.1.trans (stg_no _ _ n2)
    have hI2:=lh (And.intro hI (And.intro hls hw))
    clear hI hwt hun hun2 hcl hls n2 hw
    change Made _ _ (Sem.run _ (execOp (Act.eval (Act.put (frm _ _ _ []) (some 16) (vs 0))) _) _)
    simp only[frm,h0]
    go_simp
    refine made_ok ⟨?_,hI2.out.1.2.put fun x hx=>by cases hx;rfl⟩
    rw[stg_set _ _ (by decide),stg_set _ _ (by decide)]
    exact hI2.out.1.1
   ·have h15:vs 15=.pointer (some ⟨g,0,none⟩):=hI.2 15 _ rfl (hwt 15 (by kernel_rfl))
    have n2:L.getD 17 false=false:=hcl.nd hun2 (by kernel_rfl)
    have hw:w8=stg L 14 W.drew W1:=hI.1.trans (stg_no _ _ n2)
    have hI2:=lh (And.intro hI (And.intro hls hw))
    clear hI hwt hun hun2 hcl hls n2 hw
    change Made _ _ (Sem.run _ (execOp (Act.eval (Act.put (frm _ _ _ []) (some 30) (vs 15))) _) _)
    simp only[frm,h15]
    go_simp
    refine made_ok ⟨?_,hI2.out.1.2.put fun x hx=>by cases hx;rfl⟩
    rw[stg_set _ _ (by decide),stg_set _ _ (by decide)]
    exact hI2.out.1.1
   ·have h13:vs 13=.slice none 0 0:=hI.2 13 _ rfl (hwt 13 (by kernel_rfl))
    have h16:vs 16=.pointer (some ⟨g,0,none⟩):=hI.2 16 _ rfl (hwt 16 (by kernel_rfl))
    have hw:w8=W1:=hI.1.trans ((stg_no _ _ hun2).trans (stg_done _ _ (hwt 14 (by kernel_rfl))))
    subst hw
    have es:=HF2.out.2.2.2.1
    have ef:=HF.out.2.2.2.2.2.2.2.2
    have hI2:=lh (And.intro hI hls)
    clear hI hwt hun hun2 hcl hls
    change Made _ _ (Sem.run _ (execOp (Act.eval (Act.put (Act.put (frm _ _ _ []) (some 31) (vs 16)) (some 29) (vs 13))) _) _)
    simp only[frm,h13,h16]
    go_simp
    refine made_skip ⟨?_,hI2.out.1.2.put fun x hx=>by cases hx⟩
    rw[stg_new _ _ (by rw[hI2.out.2];decide)]
    exact HW2.out.symm
  ·intro L vs w8 hls hall hI
   have hw:w8=W2:=hI.1.trans (stg_done _ _ (hall 17 (by decide)))
   have h0:vs 0=.pointer (some ⟨g,0,none⟩):=hI.2 0 _ rfl (hall 0 (by decide))
   have h1:vs 1=.pointer (some ⟨g,0,none⟩):=hI.2 1 _ rfl (hall 1 (by decide))
   have h2:vs 2=.pointer (some ⟨g,0,none⟩):=hI.2 2 _ rfl (hall 2 (by decide))
   have h3:vs 3=.pointer (some ⟨g,0,none⟩):=hI.2 3 _ rfl (hall 3 (by decide))
   have h4:vs 4=.slice none 0 0:=hI.2 4 _ rfl (hall 4 (by decide))
   have h5:vs 5=.int .u64 0:=hI.2 5 _ rfl (hall 5 (by decide))
   have h6:vs 6=.slice none 0 0:=hI.2 6 _ rfl (hall 6 (by decide))
   have h7:vs 7=.string S:=hI.2 7 _ rfl (hall 7 (by decide))
   have h8:vs 8=.pointer (some ⟨g,0,none⟩):=hI.2 8 _ rfl (hall 8 (by decide))
   have h9:vs 9=.pointer (some ⟨g,0,none⟩):=hI.2 9 _ rfl (hall 9 (by decide))
   have h10:vs 10=.pointer (some ⟨g,0,none⟩):=hI.2 10 _ rfl (hall 10 (by decide))
   have h11:vs 11=.slice none 0 0:=hI.2 11 _ rfl (hall 11 (by decide))
   have h12:vs 12=.int .u64 0:=hI.2 12 _ rfl (hall 12 (by decide))
   have h13:vs 13=.slice none 0 0:=hI.2 13 _ rfl (hall 13 (by decide))
   have h15:vs 15=.pointer (some ⟨g,0,none⟩):=hI.2 15 _ rfl (hall 15 (by decide))
   have h16:vs 16=.pointer (some ⟨g,0,none⟩):=hI.2 16 _ rfl (hall 16 (by decide))
   change wpList _ _ _ [] (Act.put (Act.put (Act.put (Act.put (Act.put (Act.put (Act.put (Act.put (Act.put (Act.put (Act.put (Act.put (Act.put (Act.put (Act.put (Act.put (Act.put (Act.put (frm _ _ _ []) none (vs 17)) (some 31) (vs 16)) (some 30) (vs 15)) none (vs 14)) (some 29) (vs 13)) (some 28) (vs 12)) (some 27) (vs 11)) (some 26) (vs 10)) (some 25) (vs 9)) (some 24) (vs 8)) (some 23) (vs 7)) (some 22) (vs 6)) (some 21) (vs 5)) (some 20) (vs 4)) (some 19) (vs 3)) (some 18) (vs 2)) (some 17) (vs 1)) (some 16) (vs 0)) _
   simp only[frm,h0,h1,h2,h3,h4,h5,h6,h7,h8,h9,h10,h11,h12,h13,h15,h16]
   generalize vs 14=vz14
   generalize vs 17=vz17
   rw[hw]
   clear hw hI hall hls h0 h1 h2 h3 h4 h5 h6 h7 h8 h9 h10 h11 h12 h13 h15 h16
   clear hN63 hw2
   have HK2:Hid (Kp (fun k=>k=g ∨ k=s) w W2):=lh (by rw[HW2.out];exact(HB1.out.2.2.mono (T:=fun k=>k=g ∨ k=s) fun _ _ h=>.inr h).trans (Kp.setCell (S:=fun k=>k=g) _ ⟨g,0,none⟩ _ rfl) fun _ _ h=>.inl h)
   have HS2:Hid (Bk W2 s 9 #[.string S]):=lh (by rw[HW2.out];exact HB1.out.2.1.far (p:=⟨g,0,none⟩) (fun e=>HNE.out.1 e.symm) _)
   have HHSZ:=lh HSL
   clear HF HF2 HCW
   go_wp2_with fail
   go_ret
   exact⟨rfl,⟨none,0,⟨by rw[HW2.out];exact HB1.out.1.set 0 _,Nat.le_refl _,Nat.zero_le _,Sl.nil _ _ _,fun b o m e=>(by cases e),fun _=>rfl,H.out.ne,H.out.b8⟩⟩,by have h9:=HS2.out;rw[HS.out] at h9;exact h9,HK2.out⟩
 ·by_cases hnc:N=c
  ·subst hnc
   have hbl:b.length=N:=by omega
   obtain⟨W2,hW2⟩:∃ W2,W2=W1.setCell ⟨g,0,none⟩ (.slice (some ⟨bb,o,none⟩) 0 0):=⟨_,rfl⟩
   have HW2:=lh hW2
   rw[hbl] at HF
   have hg0:W.drew.cell? ⟨g,0,none⟩=some (.slice (some ⟨bb,o,none⟩) N N):=HF.out.1
   have hp0:=HF.out.2.1
   have hq0:W.drew.cell? ⟨q,0,none⟩=some (.int .u64 (N:Int)):=HF.out.2.2.1
   have hg1:W1.cell? ⟨g,0,none⟩=some (.slice (some ⟨bb,o,none⟩) N N):=HF.out.2.2.2.1
   have hp1:=HF.out.2.2.2.2.1
   have hq1:W1.cell? ⟨q,0,none⟩=some (.int .u64 (N:Int)):=HF.out.2.2.2.2.2.1
   have HF2:=lh (And.intro hg0 (And.intro hp0 (And.intro hq0 (And.intro hg1 (And.intro hp1 hq1)))))
   clear hg0 hp0 hq0 hg1 hp1 hq1 hW2
   refine wp_region_invD 18 (fun i=>([[],[],[1],[2],[3],[],[4,5],[6],[],[8],[9],[10],[],[11,12],[7],[0],[15],[13,16]]:List (List Nat)).getD i []) (fun L vs w=>w=stg L 17 (stg L 14 W.drew W1) W2∧Vals ([some (.pointer (some ⟨g,0,none⟩)),some (.pointer (some ⟨g,0,none⟩)),some (.pointer (some ⟨g,0,none⟩)),some (.pointer (some ⟨g,0,none⟩)),some (.slice (some ⟨bb,o,none⟩) N N),some (.int .u64 (N:Int)),some (.slice (some ⟨bb,o,none⟩) N N),some (.string S),some (.pointer (some ⟨g,0,none⟩)),some (.pointer (some ⟨g,0,none⟩)),some (.pointer (some ⟨g,0,none⟩)),some (.slice (some ⟨bb,o,none⟩) N N),some (.int .u64 (N:Int)),some (.slice (some ⟨bb,o,none⟩) 0 0),none,some (.pointer (some ⟨g,0,none⟩)),some (.pointer (some ⟨g,0,none⟩)),none]:List (Option Value)) L vs) rfl (by kernel_rfl) (by rfl) (fun vs=>?_) ?_ ?_
   ·refine⟨?_,fun k v _ h=>by rw[getD_replicate_false] at h;cases h⟩
    unfold stg
    rw[getD_replicate_false,getD_replicate_false,if_neg (by simp),if_neg (by simp)]
    all_goals exact rfl
   ·intro i hi o ho L vs w8 hls hun hwt hcl hI
    have hun2:=und' hun
    rcases (show i=0 ∨ i=1 ∨ i=2 ∨ i=3 ∨ i=4 ∨ i=5 ∨ i=6 ∨ i=7 ∨ i=8 ∨ i=9 ∨ i=10 ∨ i=11 ∨ i=12 ∨ i=13 ∨ i=14 ∨ i=15 ∨ i=16 ∨ i=17 by omega) with rfl | rfl | rfl | rfl | rfl | rfl | rfl | rfl | rfl | rfl | rfl | rfl | rfl | rfl | rfl | rfl | rfl | rfl <;> cases ho
    ·have n2:L.getD 17 false=false:=hcl.nd hun2 (by kernel_rfl)
     have hw:w8=stg L 14 W.drew W1:=hI.1.trans (stg_no _ _ n2)
     have ec:w8.cell? ⟨p,0,none⟩=some (.pointer (some ⟨g,0,none⟩)):=by rw[hw];exact stg_fact (fun w:World=>w.cell? ⟨p,0,none⟩=some (.pointer (some ⟨g,0,none⟩):Value)) HF2.out.2.1 HF2.out.2.2.2.2.1
     have hI2:=lh (And.intro hI (And.intro hls hw))
     clear hI hwt hun hun2 hcl hls n2 hw
     change Made _ _ (Sem.run _ (execOp (Act.eval (frm _ _ _ [])) _) _)
     simp only[frm]
     go_simp
     refine made_ok ⟨?_,hI2.out.1.2.put fun x hx=>by cases hx;rfl⟩
     rw[stg_set _ _ (by decide),stg_set _ _ (by decide)]
     exact hI2.out.1.1
    ·have n2:L.getD 17 false=false:=hcl.nd hun2 (by kernel_rfl)
     have hw:w8=stg L 14 W.drew W1:=hI.1.trans (stg_no _ _ n2)
     have ec:w8.cell? ⟨p,0,none⟩=some (.pointer (some ⟨g,0,none⟩)):=by rw[hw];exact stg_fact (fun w:World=>w.cell? ⟨p,0,none⟩=some (.pointer (some ⟨g,0,none⟩):Value)) HF2.out.2.1 HF2.out.2.2.2.2.1
     have hI2:=lh (And.intro hI (And.intro hls hw))
     clear hI hwt hun hun2 hcl hls n2 hw
     change Made _ _ (Sem.run _ (execOp (Act.eval (frm _ _ _ [])) _) _)
     simp only[frm]
     go_simp
     refine made_ok ⟨?_,hI2.out.1.2.put fun x hx=>by cases hx;rfl⟩
     rw[stg_set _ _ (by decide),stg_set _ _ (by decide)]
     exact hI2.out.1.1
    ·have h1:vs 1=.pointer (some ⟨g,0,none⟩):=hI.2 1 _ rfl (hwt 1 (by kernel_rfl))
     have n2:L.getD 17 false=false:=hcl.nd hun2 (by kernel_rfl)
     have hw:w8=stg L 14 W.drew W1:=hI.1.trans (stg_no _ _ n2)
     have hI2:=lh (And.intro hI (And.intro hls hw))
     clear hI hwt hun hun2 hcl hls n2 hw
     change Made _ _ (Sem.run _ (execOp (Act.eval (Act.put (frm _ _ _ []) (some 17) (vs 1))) _) _)
     simp only[frm,h1]
     go_simp
     refine made_ok ⟨?_,hI2.out.1.2.put fun x hx=>by cases hx;rfl⟩
     rw[stg_set _ _ (by decide),stg_set _ _ (by decide)]
     exact hI2.out.1.1
    ·have h2:vs 2=.pointer (some ⟨g,0,none⟩):=hI.2 2 _ rfl (hwt 2 (by kernel_rfl))
     have n2:L.getD 17 false=false:=hcl.nd hun2 (by kernel_rfl)
     have hw:w8=stg L 14 W.drew W1:=hI.1.trans (stg_no _ _ n2)
     have hI2:=lh (And.intro hI (And.intro hls hw))
     clear hI hwt hun hun2 hcl hls n2 hw
     change Made _ _ (Sem.run _ (execOp (Act.eval (Act.put (frm _ _ _ []) (some 18) (vs 2))) _) _)
     simp only[frm,h2]
     go_simp
     refine made_ok ⟨?_,hI2.out.1.2.put fun x hx=>by cases hx;rfl⟩
     rw[stg_set _ _ (by decide),stg_set _ _ (by decide)]
     exact hI2.out.1.1
    ·have h3:vs 3=.pointer (some ⟨g,0,none⟩):=hI.2 3 _ rfl (hwt 3 (by kernel_rfl))
     have n2:L.getD 17 false=false:=hcl.nd hun2 (by kernel_rfl)
     have hw:w8=stg L 14 W.drew W1:=hI.1.trans (stg_no _ _ n2)
     have ec:w8.cell? ⟨g,0,none⟩=some (.slice (some ⟨bb,o,none⟩) N N):=by rw[hw];exact stg_fact (fun w:World=>w.cell? ⟨g,0,none⟩=some (.slice (some ⟨bb,o,none⟩) N N:Value)) HF2.out.1 HF2.out.2.2.2.1
     have hI2:=lh (And.intro hI (And.intro hls hw))
     clear hI hwt hun hun2 hcl hls n2 hw
     change Made _ _ (Sem.run _ (execOp (Act.eval (Act.put (frm _ _ _ []) (some 19) (vs 3))) _) _)
     simp only[frm,h3]
     go_simp
     refine made_ok ⟨?_,hI2.out.1.2.put fun x hx=>by cases hx;rfl⟩
     rw[stg_set _ _ (by decide),stg_set _ _ (by decide)]
     exact hI2.out.1.1
    ·have n2:L.getD 17 false=false:=hcl.nd hun2 (by kernel_rfl)
     have hw:w8=stg L 14 W.drew W1:=hI.1.trans (stg_no _ _ n2)
     have ec:w8.cell? ⟨q,0,none⟩=some (.int .u64 (N:Int)):=by rw[hw];exact stg_fact (fun w:World=>w.cell? ⟨q,0,none⟩=some (.int .u64 (N:Int):Value)) HF2.out.2.2.1 HF2.out.2.2.2.2.2
     have hI2:=lh (And.intro hI (And.intro hls hw))
     clear hI hwt hun hun2 hcl hls n2 hw
     change Made _ _ (Sem.run _ (execOp (Act.eval (frm _ _ _ [])) _) _)
     simp only[frm]
     go_simp
     refine made_ok ⟨?_,hI2.out.1.2.put fun x hx=>by cases hx;rfl⟩
     rw[stg_set _ _ (by decide),stg_set _ _ (by decide)]
     exact hI2.out.1.1
    ·have h4:vs 4=.slice (some ⟨bb,o,none⟩) N N:=hI.2 4 _ rfl (hwt 4 (by kernel_rfl))
     have h5:vs 5=.int .u64 (N:Int):=hI.2 5 _ rfl (hwt 5 (by kernel_rfl))
     have n2:L.getD 17 false=false:=hcl.nd hun2 (by kernel_rfl)
     have hw:w8=stg L 14 W.drew W1:=hI.1.trans (stg_no _ _ n2)
     have hle:N≤N:=Nat.le_refl _
     have hI2:=lh (And.intro hI (And.intro hls hw))
     clear hI hwt hun hun2 hcl hls n2 hw
     change Made _ _ (Sem.run _ (execOp (Act.eval (Act.put (Act.put (frm _ _ _ []) (some 21) (vs 5)) (some 20) (vs 4))) _) _)
     simp only[frm,h4,h5]
     go_simp
     refine made_ok ⟨?_,hI2.out.1.2.put fun x hx=>by cases hx;rfl⟩
     rw[stg_set _ _ (by decide),stg_set _ _ (by decide)]
     exact hI2.out.1.1
    ·have h6:vs 6=.slice (some ⟨bb,o,none⟩) N N:=hI.2 6 _ rfl (hwt 6 (by kernel_rfl))
     have n2:L.getD 17 false=false:=hcl.nd hun2 (by kernel_rfl)
     have hw:w8=stg L 14 W.drew W1:=hI.1.trans (stg_no _ _ n2)
     have hcw:(convert 45 9 (.slice (some ⟨bb,o,none⟩) N N)).run Tryz.prog w8=.ok (.string S) w8:=HCW.out w8 (by rw[hw];unfold stg;split;exact .inr (.inl rfl);exact .inr (.inr rfl))
     have hI2:=lh (And.intro hI (And.intro hls hw))
     clear hI hwt hun hun2 hcl hls n2 hw
     change Made _ _ (Sem.run _ (execOp (Act.eval (Act.put (frm _ _ _ []) (some 22) (vs 6))) _) _)
     simp only[frm,h6]
     go_simp
     refine made_ok ⟨?_,hI2.out.1.2.put fun x hx=>by cases hx;rfl⟩
     rw[stg_set _ _ (by decide),stg_set _ _ (by decide)]
     exact hI2.out.1.1
    ·have n2:L.getD 17 false=false:=hcl.nd hun2 (by kernel_rfl)
     have hw:w8=stg L 14 W.drew W1:=hI.1.trans (stg_no _ _ n2)
     have ec:w8.cell? ⟨p,0,none⟩=some (.pointer (some ⟨g,0,none⟩)):=by rw[hw];exact stg_fact (fun w:World=>w.cell? ⟨p,0,none⟩=some (.pointer (some ⟨g,0,none⟩):Value)) HF2.out.2.1 HF2.out.2.2.2.2.1
     have hI2:=lh (And.intro hI (And.intro hls hw))
     clear hI hwt hun hun2 hcl hls n2 hw
     change Made _ _ (Sem.run _ (execOp (Act.eval (frm _ _ _ [])) _) _)
     simp only[frm]
     go_simp
     refine made_ok ⟨?_,hI2.out.1.2.put fun x hx=>by cases hx;rfl⟩
     rw[stg_set _ _ (by decide),stg_set _ _ (by decide)]
     exact hI2.out.1.1
    ·have h8:vs 8=.pointer (some ⟨g,0,none⟩):=hI.2 8 _ rfl (hwt 8 (by kernel_rfl))
     have n2:L.getD 17 false=false:=hcl.nd hun2 (by kernel_rfl)
     have hw:w8=stg L 14 W.drew W1:=hI.1.trans (stg_no _ _ n2)
     have hI2:=lh (And.intro hI (And.intro hls hw))
     clear hI hwt hun hun2 hcl hls n2 hw
     change Made _ _ (Sem.run _ (execOp (Act.eval (Act.put (frm _ _ _ []) (some 24) (vs 8))) _) _)
     simp only[frm,h8]
     go_simp
     refine made_ok ⟨?_,hI2.out.1.2.put fun x hx=>by cases hx;rfl⟩
     rw[stg_set _ _ (by decide),stg_set _ _ (by decide)]
     exact hI2.out.1.1
    ·have h9:vs 9=.pointer (some ⟨g,0,none⟩):=hI.2 9 _ rfl (hwt 9 (by kernel_rfl))
     have n2:L.getD 17 false=false:=hcl.nd hun2 (by kernel_rfl)
     have hw:w8=stg L 14 W.drew W1:=hI.1.trans (stg_no _ _ n2)
     have hI2:=lh (And.intro hI (And.intro hls hw))
     clear hI hwt hun hun2 hcl hls n2 hw
     change Made _ _ (Sem.run _ (execOp (Act.eval (Act.put (frm _ _ _ []) (some 25) (vs 9))) _) _)
     simp only[frm,h9]
     go_simp
     refine made_ok ⟨?_,hI2.out.1.2.put fun x hx=>by cases hx;rfl⟩
     rw[stg_set _ _ (by decide),stg_set _ _ (by decide)]
     exact hI2.out.1.1
    ·have h10:vs 10=.pointer (some ⟨g,0,none⟩):=hI.2 10 _ rfl (hwt 10 (by kernel_rfl))
     have n2:L.getD 17 false=false:=hcl.nd hun2 (by kernel_rfl)
     have hw:w8=stg L 14 W.drew W1:=hI.1.trans (stg_no _ _ n2)
     have ec:w8.cell? ⟨g,0,none⟩=some (.slice (some ⟨bb,o,none⟩) N N):=by rw[hw];exact stg_fact (fun w:World=>w.cell? ⟨g,0,none⟩=some (.slice (some ⟨bb,o,none⟩) N N:Value)) HF2.out.1 HF2.out.2.2.2.1
     have hI2:=lh (And.intro hI (And.intro hls hw))
     clear hI hwt hun hun2 hcl hls n2 hw
     change Made _ _ (Sem.run _ (execOp (Act.eval (Act.put (frm _ _ _ []) (some 26) (vs 10))) _) _)
     simp only[frm,h10]
     go_simp
     refine made_ok ⟨?_,hI2.out.1.2.put fun x hx=>by cases hx;rfl⟩
     rw[stg_set _ _ (by decide),stg_set _ _ (by decide)]
     exact hI2.out.1.1
    ·have n2:L.getD 17 false=false:=hcl.nd hun2 (by kernel_rfl)
     have hw:w8=stg L 14 W.drew W1:=hI.1.trans (stg_no _ _ n2)
     have ec:w8.cell? ⟨q,0,none⟩=some (.int .u64 (N:Int)):=by rw[hw];exact stg_fact (fun w:World=>w.cell? ⟨q,0,none⟩=some (.int .u64 (N:Int):Value)) HF2.out.2.2.1 HF2.out.2.2.2.2.2
     have hI2:=lh (And.intro hI (And.intro hls hw))
     clear hI hwt hun hun2 hcl hls n2 hw
     change Made _ _ (Sem.run _ (execOp (Act.eval (frm _ _ _ [])) _) _)
     simp only[frm]
     go_simp
     refine made_ok ⟨?_,hI2.out.1.2.put fun x hx=>by cases hx;rfl⟩
     rw[stg_set _ _ (by decide),stg_set _ _ (by decide)]
     exact hI2.out.1.1
    ·have h11:vs 11=.slice (some ⟨bb,o,none⟩) N N:=hI.2 11 _ rfl (hwt 11 (by kernel_rfl))
     have h12:vs 12=.int .u64 (N:Int):=hI.2 12 _ rfl (hwt 12 (by kernel_rfl))
     have n2:L.getD 17 false=false:=hcl.nd hun2 (by kernel_rfl)
     have hw:w8=stg L 14 W.drew W1:=hI.1.trans (stg_no _ _ n2)
     have hle:N≤N:=Nat.le_refl _
     have hI2:=lh (And.intro hI (And.intro hls hw))
     clear hI hwt hun hun2 hcl hls n2 hw
     change Made _ _ (Sem.run _ (execOp (Act.eval (Act.put (Act.put (frm _ _ _ []) (some 28) (vs 12)) (some 27) (vs 11))) _) _)
     simp only[frm,h11,h12]
     go_simp
     refine made_ok ⟨?_,hI2.out.1.2.put fun x hx=>by cases hx;rfl⟩
     rw[stg_set _ _ (by decide),stg_set _ _ (by decide)]
     exact hI2.out.1.1
    ·have h7:vs 7=.string S:=hI.2 7 _ rfl (hwt 7 (by kernel_rfl))
     have n2:L.getD 17 false=false:=hcl.nd hun2 (by kernel_rfl)
     have hw:w8=W.drew:=hI.1.trans ((stg_no _ _ n2).trans (stg_no _ _ hun2))
     subst hw
     have es:=HF.out.2.2.2.2.2.2.1
     have ef:=HF.out.2.2.2.2.2.2.2.1
     have hI2:=lh (And.intro hI (And.intro hls n2))
     clear hI hwt hun hun2 hcl hls n2
     change Made _ _ (Sem.run _ (execOp (Act.eval (Act.put (frm _ _ _ []) (some 23) (vs 7))) _) _)
     simp only[frm,h7]
     go_simp
     refine made_skip ⟨?_,hI2.out.1.2.put fun x hx=>by cases hx⟩
     rw[stg_set _ _ (by decide),stg_no _ _ hI2.out.2.2,stg_new _ _ (by rw[hI2.out.2.1];decide)]
     exact HW1.out.symm
    ·have h0:vs 0=.pointer (some ⟨g,0,none⟩):=hI.2 0 _ rfl (hwt 0 (by kernel_rfl))
     have n16_:L.getD 16 false=false:=hcl.nd hun2 (by kernel_rfl)
     have n2:L.getD 17 false=false:=hcl.nd n16_ (by kernel_rfl)
     have hw:w8=stg L 14 W.drew W1:=hI.1.trans (stg_no _ _ n2)
     have hI2:=lh (And.intro hI (And.intro hls hw))
     clear hI hwt hun hun2 hcl hls n2 hw
     change Made _ _ (Sem.run _ (execOp (Act.eval (Act.put (frm _ _ _ []) (some 16) (vs 0))) _) _)
     simp only[frm,h0]
     go_simp
     refine made_ok ⟨?_,hI2.out.1.2.put fun x hx=>by cases hx;rfl⟩
     rw[stg_set _ _ (by decide),stg_set _ _ (by decide)]
     exact hI2.out.1.1
    ·have h15:vs 15=.pointer (some ⟨g,0,none⟩):=hI.2 15 _ rfl (hwt 15 (by kernel_rfl))
     have n2:L.getD 17 false=false:=hcl.nd hun2 (by kernel_rfl)
     have hw:w8=stg L 14 W.drew W1:=hI.1.trans (stg_no _ _ n2)
     have hI2:=lh (And.intro hI (And.intro hls hw))
     clear hI hwt hun hun2 hcl hls n2 hw
     change Made _ _ (Sem.run _ (execOp (Act.eval (Act.put (frm _ _ _ []) (some 30) (vs 15))) _) _)
     simp only[frm,h15]
     go_simp
     refine made_ok ⟨?_,hI2.out.1.2.put fun x hx=>by cases hx;rfl⟩
     rw[stg_set _ _ (by decide),stg_set _ _ (by decide)]
     exact hI2.out.1.1
    ·have h13:vs 13=.slice (some ⟨bb,o,none⟩) 0 0:=hI.2 13 _ rfl (hwt 13 (by kernel_rfl))
     have h16:vs 16=.pointer (some ⟨g,0,none⟩):=hI.2 16 _ rfl (hwt 16 (by kernel_rfl))
     have hw:w8=W1:=hI.1.trans ((stg_no _ _ hun2).trans (stg_done _ _ (hwt 14 (by kernel_rfl))))
     subst hw
     have es:=HF2.out.2.2.2.1
     have ef:=HF.out.2.2.2.2.2.2.2.2
     have hI2:=lh (And.intro hI hls)
     clear hI hwt hun hun2 hcl hls
     change Made _ _ (Sem.run _ (execOp (Act.eval (Act.put (Act.put (frm _ _ _ []) (some 31) (vs 16)) (some 29) (vs 13))) _) _)
     simp only[frm,h13,h16]
     go_simp
     refine made_skip ⟨?_,hI2.out.1.2.put fun x hx=>by cases hx⟩
     rw[stg_new _ _ (by rw[hI2.out.2];decide)]
     exact HW2.out.symm
   ·intro L vs w8 hls hall hI
    have hw:w8=W2:=hI.1.trans (stg_done _ _ (hall 17 (by decide)))
    have h0:vs 0=.pointer (some ⟨g,0,none⟩):=hI.2 0 _ rfl (hall 0 (by decide))
    have h1:vs 1=.pointer (some ⟨g,0,none⟩):=hI.2 1 _ rfl (hall 1 (by decide))
    have h2:vs 2=.pointer (some ⟨g,0,none⟩):=hI.2 2 _ rfl (hall 2 (by decide))
    have h3:vs 3=.pointer (some ⟨g,0,none⟩):=hI.2 3 _ rfl (hall 3 (by decide))
    have h4:vs 4=.slice (some ⟨bb,o,none⟩) N N:=hI.2 4 _ rfl (hall 4 (by decide))
    have h5:vs 5=.int .u64 (N:Int):=hI.2 5 _ rfl (hall 5 (by decide))
    have h6:vs 6=.slice (some ⟨bb,o,none⟩) N N:=hI.2 6 _ rfl (hall 6 (by decide))
    have h7:vs 7=.string S:=hI.2 7 _ rfl (hall 7 (by decide))
    have h8:vs 8=.pointer (some ⟨g,0,none⟩):=hI.2 8 _ rfl (hall 8 (by decide))
    have h9:vs 9=.pointer (some ⟨g,0,none⟩):=hI.2 9 _ rfl (hall 9 (by decide))
    have h10:vs 10=.pointer (some ⟨g,0,none⟩):=hI.2 10 _ rfl (hall 10 (by decide))
    have h11:vs 11=.slice (some ⟨bb,o,none⟩) N N:=hI.2 11 _ rfl (hall 11 (by decide))
    have h12:vs 12=.int .u64 (N:Int):=hI.2 12 _ rfl (hall 12 (by decide))
    have h13:vs 13=.slice (some ⟨bb,o,none⟩) 0 0:=hI.2 13 _ rfl (hall 13 (by decide))
    have h15:vs 15=.pointer (some ⟨g,0,none⟩):=hI.2 15 _ rfl (hall 15 (by decide))
    have h16:vs 16=.pointer (some ⟨g,0,none⟩):=hI.2 16 _ rfl (hall 16 (by decide))
    change wpList _ _ _ [] (Act.put (Act.put (Act.put (Act.put (Act.put (Act.put (Act.put (Act.put (Act.put (Act.put (Act.put (Act.put (Act.put (Act.put (Act.put (Act.put (Act.put (Act.put (frm _ _ _ []) none (vs 17)) (some 31) (vs 16)) (some 30) (vs 15)) none (vs 14)) (some 29) (vs 13)) (some 28) (vs 12)) (some 27) (vs 11)) (some 26) (vs 10)) (some 25) (vs 9)) (some 24) (vs 8)) (some 23) (vs 7)) (some 22) (vs 6)) (some 21) (vs 5)) (some 20) (vs 4)) (some 19) (vs 3)) (some 18) (vs 2)) (some 17) (vs 1)) (some 16) (vs 0)) _
    simp only[frm,h0,h1,h2,h3,h4,h5,h6,h7,h8,h9,h10,h11,h12,h13,h15,h16]
    generalize vs 14=vz14
    generalize vs 17=vz17
    rw[hw]
    clear hw hI hall hls h0 h1 h2 h3 h4 h5 h6 h7 h8 h9 h10 h11 h12 h13 h15 h16
    clear hN63 hw2
    have HD:Hid (b.drop N=[]):=lh (List.drop_eq_nil_of_le (by omega))
    have HK2:Hid (Kp (fun k=>k=g ∨ k=s) w W2):=lh (by rw[HW2.out];exact(HB1.out.2.2.mono (T:=fun k=>k=g ∨ k=s) fun _ _ h=>.inr h).trans (Kp.setCell (S:=fun k=>k=g) _ ⟨g,0,none⟩ _ rfl) fun _ _ h=>.inl h)
    have HS2:Hid (Bk W2 s 9 #[.string S]):=lh (by rw[HW2.out];exact HB1.out.2.1.far (p:=⟨g,0,none⟩) (fun e=>HNE.out.1 e.symm) _)
    have HHSZ:=lh HSL
    clear HF HF2 HCW
    go_wp2_with fail
    go_ret
    exact⟨rfl,⟨some ⟨bb,o,none⟩,0,⟨by rw[HW2.out,HD.out];exact HB1.out.1.set 0 _,by rw[HD.out];exact Nat.le_refl _,Nat.zero_le _,by rw[HD.out];exact Sl.nil _ _ _,fun b o m e=>(by cases e;exact⟨rfl,rfl⟩),fun e=>(by cases e),H.out.ne,H.out.b8.drop N⟩⟩,by have h9:=HS2.out;rw[HS.out] at h9;exact h9,HK2.out⟩
  ·obtain⟨W2,hW2⟩:∃ W2,W2=W1.setCell ⟨g,0,none⟩ (.slice (some ⟨bb,o+N,none⟩) (b.length - N) (c - N)):=⟨_,rfl⟩
   have HW2:=lh hW2
   have hg0:W.drew.cell? ⟨g,0,none⟩=some (.slice (some ⟨bb,o,none⟩) b.length c):=HF.out.1
   have hp0:=HF.out.2.1
   have hq0:W.drew.cell? ⟨q,0,none⟩=some (.int .u64 (N:Int)):=HF.out.2.2.1
   have hg1:W1.cell? ⟨g,0,none⟩=some (.slice (some ⟨bb,o,none⟩) b.length c):=HF.out.2.2.2.1
   have hp1:=HF.out.2.2.2.2.1
   have hq1:W1.cell? ⟨q,0,none⟩=some (.int .u64 (N:Int)):=HF.out.2.2.2.2.2.1
   have HF2:=lh (And.intro hg0 (And.intro hp0 (And.intro hq0 (And.intro hg1 (And.intro hp1 hq1)))))
   clear hg0 hp0 hq0 hg1 hp1 hq1 hW2
   refine wp_region_invD 18 (fun i=>([[],[],[1],[2],[3],[],[4,5],[6],[],[8],[9],[10],[],[11,12],[7],[0],[15],[13,16]]:List (List Nat)).getD i []) (fun L vs w=>w=stg L 17 (stg L 14 W.drew W1) W2∧Vals ([some (.pointer (some ⟨g,0,none⟩)),some (.pointer (some ⟨g,0,none⟩)),some (.pointer (some ⟨g,0,none⟩)),some (.pointer (some ⟨g,0,none⟩)),some (.slice (some ⟨bb,o,none⟩) b.length c),some (.int .u64 (N:Int)),some (.slice (some ⟨bb,o,none⟩) N c),some (.string S),some (.pointer (some ⟨g,0,none⟩)),some (.pointer (some ⟨g,0,none⟩)),some (.pointer (some ⟨g,0,none⟩)),some (.slice (some ⟨bb,o,none⟩) b.length c),some (.int .u64 (N:Int)),some (.slice (some ⟨bb,o+N,none⟩) (b.length - N) (c - N)),none,some (.pointer (some ⟨g,0,none⟩)),some (.pointer (some ⟨g,0,none⟩)),none]:List (Option Value)) L vs) rfl (by kernel_rfl) (by rfl) (fun vs=>?_) ?_ ?_
   ·refine⟨?_,fun k v _ h=>by rw[getD_replicate_false] at h;cases h⟩
    unfold stg
    rw[getD_replicate_false,getD_replicate_false,if_neg (by simp),if_neg (by simp)]
    all_goals exact rfl
   ·intro i hi o ho L vs w8 hls hun hwt hcl hI
    have hun2:=und' hun
    rcases (show i=0 ∨ i=1 ∨ i=2 ∨ i=3 ∨ i=4 ∨ i=5 ∨ i=6 ∨ i=7 ∨ i=8 ∨ i=9 ∨ i=10 ∨ i=11 ∨ i=12 ∨ i=13 ∨ i=14 ∨ i=15 ∨ i=16 ∨ i=17 by omega) with rfl | rfl | rfl | rfl | rfl | rfl | rfl | rfl | rfl | rfl | rfl | rfl | rfl | rfl | rfl | rfl | rfl | rfl <;> cases ho
    ·have n2:L.getD 17 false=false:=hcl.nd hun2 (by kernel_rfl)
     have hw:w8=stg L 14 W.drew W1:=hI.1.trans (stg_no _ _ n2)
     have ec:w8.cell? ⟨p,0,none⟩=some (.pointer (some ⟨g,0,none⟩)):=by rw[hw];exact stg_fact (fun w:World=>w.cell? ⟨p,0,none⟩=some (.pointer (some ⟨g,0,none⟩):Value)) HF2.out.2.1 HF2.out.2.2.2.2.1
     have hI2:=lh (And.intro hI (And.intro hls hw))
     clear hI hwt hun hun2 hcl hls n2 hw
     change Made _ _ (Sem.run _ (execOp (Act.eval (frm _ _ _ [])) _) _)
     simp only[frm]
     go_simp
     refine made_ok ⟨?_,hI2.out.1.2.put fun x hx=>by cases hx;rfl⟩
     rw[stg_set _ _ (by decide),stg_set _ _ (by decide)]
     exact hI2.out.1.1
    ·have n2:L.getD 17 false=false:=hcl.nd hun2 (by kernel_rfl)
     have hw:w8=stg L 14 W.drew W1:=hI.1.trans (stg_no _ _ n2)
     have ec:w8.cell? ⟨p,0,none⟩=some (.pointer (some ⟨g,0,none⟩)):=by rw[hw];exact stg_fact (fun w:World=>w.cell? ⟨p,0,none⟩=some (.pointer (some ⟨g,0,none⟩):Value)) HF2.out.2.1 HF2.out.2.2.2.2.1
     have hI2:=lh (And.intro hI (And.intro hls hw))
     clear hI hwt hun hun2 hcl hls n2 hw
     change Made _ _ (Sem.run _ (execOp (Act.eval (frm _ _ _ [])) _) _)
     simp only[frm]
     go_simp
     refine made_ok ⟨?_,hI2.out.1.2.put fun x hx=>by cases hx;rfl⟩
     rw[stg_set _ _ (by decide),stg_set _ _ (by decide)]
     exact hI2.out.1.1
    ·have h1:vs 1=.pointer (some ⟨g,0,none⟩):=hI.2 1 _ rfl (hwt 1 (by kernel_rfl))
     have n2:L.getD 17 false=false:=hcl.nd hun2 (by kernel_rfl)
     have hw:w8=stg L 14 W.drew W1:=hI.1.trans (stg_no _ _ n2)
     have hI2:=lh (And.intro hI (And.intro hls hw))
     clear hI hwt hun hun2 hcl hls n2 hw
     change Made _ _ (Sem.run _ (execOp (Act.eval (Act.put (frm _ _ _ []) (some 17) (vs 1))) _) _)
     simp only[frm,h1]
     go_simp
     refine made_ok ⟨?_,hI2.out.1.2.put fun x hx=>by cases hx;rfl⟩
     rw[stg_set _ _ (by decide),stg_set _ _ (by decide)]
     exact hI2.out.1.1
    ·have h2:vs 2=.pointer (some ⟨g,0,none⟩):=hI.2 2 _ rfl (hwt 2 (by kernel_rfl))
     have n2:L.getD 17 false=false:=hcl.nd hun2 (by kernel_rfl)
     have hw:w8=stg L 14 W.drew W1:=hI.1.trans (stg_no _ _ n2)
     have hI2:=lh (And.intro hI (And.intro hls hw))
     clear hI hwt hun hun2 hcl hls n2 hw
     change Made _ _ (Sem.run _ (execOp (Act.eval (Act.put (frm _ _ _ []) (some 18) (vs 2))) _) _)
     simp only[frm,h2]
     go_simp
     refine made_ok ⟨?_,hI2.out.1.2.put fun x hx=>by cases hx;rfl⟩
     rw[stg_set _ _ (by decide),stg_set _ _ (by decide)]
     exact hI2.out.1.1
    ·have h3:vs 3=.pointer (some ⟨g,0,none⟩):=hI.2 3 _ rfl (hwt 3 (by kernel_rfl))
     have n2:L.getD 17 false=false:=hcl.nd hun2 (by kernel_rfl)
     have hw:w8=stg L 14 W.drew W1:=hI.1.trans (stg_no _ _ n2)
     have ec:w8.cell? ⟨g,0,none⟩=some (.slice (some ⟨bb,o,none⟩) b.length c):=by rw[hw];exact stg_fact (fun w:World=>w.cell? ⟨g,0,none⟩=some (.slice (some ⟨bb,o,none⟩) b.length c:Value)) HF2.out.1 HF2.out.2.2.2.1
     have hI2:=lh (And.intro hI (And.intro hls hw))
     clear hI hwt hun hun2 hcl hls n2 hw
     change Made _ _ (Sem.run _ (execOp (Act.eval (Act.put (frm _ _ _ []) (some 19) (vs 3))) _) _)
     simp only[frm,h3]
     go_simp
     refine made_ok ⟨?_,hI2.out.1.2.put fun x hx=>by cases hx;rfl⟩
     rw[stg_set _ _ (by decide),stg_set _ _ (by decide)]
     exact hI2.out.1.1
    ·have n2:L.getD 17 false=false:=hcl.nd hun2 (by kernel_rfl)
     have hw:w8=stg L 14 W.drew W1:=hI.1.trans (stg_no _ _ n2)
     have ec:w8.cell? ⟨q,0,none⟩=some (.int .u64 (N:Int)):=by rw[hw];exact stg_fact (fun w:World=>w.cell? ⟨q,0,none⟩=some (.int .u64 (N:Int):Value)) HF2.out.2.2.1 HF2.out.2.2.2.2.2
     have hI2:=lh (And.intro hI (And.intro hls hw))
     clear hI hwt hun hun2 hcl hls n2 hw
     change Made _ _ (Sem.run _ (execOp (Act.eval (frm _ _ _ [])) _) _)
     simp only[frm]
     go_simp
     refine made_ok ⟨?_,hI2.out.1.2.put fun x hx=>by cases hx;rfl⟩
     rw[stg_set _ _ (by decide),stg_set _ _ (by decide)]
     exact hI2.out.1.1
    ·have h4:vs 4=.slice (some ⟨bb,o,none⟩) b.length c:=hI.2 4 _ rfl (hwt 4 (by kernel_rfl))
     have h5:vs 5=.int .u64 (N:Int):=hI.2 5 _ rfl (hwt 5 (by kernel_rfl))
     have n2:L.getD 17 false=false:=hcl.nd hun2 (by kernel_rfl)
     have hw:w8=stg L 14 W.drew W1:=hI.1.trans (stg_no _ _ n2)
     have hlt9:N < c:=by omega
     have hcn:¬ c=N:=by omega
     have hI2:=lh (And.intro hI (And.intro hls hw))
     clear hI hwt hun hun2 hcl hls n2 hw
     change Made _ _ (Sem.run _ (execOp (Act.eval (Act.put (Act.put (frm _ _ _ []) (some 21) (vs 5)) (some 20) (vs 4))) _) _)
     simp only[frm,h4,h5]
     go_simp
     refine made_ok ⟨?_,hI2.out.1.2.put fun x hx=>by cases hx;rfl⟩
     rw[stg_set _ _ (by decide),stg_set _ _ (by decide)]
     exact hI2.out.1.1
    ·have h6:vs 6=.slice (some ⟨bb,o,none⟩) N c:=hI.2 6 _ rfl (hwt 6 (by kernel_rfl))
     have n2:L.getD 17 false=false:=hcl.nd hun2 (by kernel_rfl)
     have hw:w8=stg L 14 W.drew W1:=hI.1.trans (stg_no _ _ n2)
     have hcw:(convert 45 9 (.slice (some ⟨bb,o,none⟩) N c)).run Tryz.prog w8=.ok (.string S) w8:=HCW.out w8 (by rw[hw];unfold stg;split;exact .inr (.inl rfl);exact .inr (.inr rfl))
     have hI2:=lh (And.intro hI (And.intro hls hw))
     clear hI hwt hun hun2 hcl hls n2 hw
     change Made _ _ (Sem.run _ (execOp (Act.eval (Act.put (frm _ _ _ []) (some 22) (vs 6))) _) _)
     simp only[frm,h6]
     go_simp
     refine made_ok ⟨?_,hI2.out.1.2.put fun x hx=>by cases hx;rfl⟩
     rw[stg_set _ _ (by decide),stg_set _ _ (by decide)]
     exact hI2.out.1.1
    ·have n2:L.getD 17 false=false:=hcl.nd hun2 (by kernel_rfl)
     have hw:w8=stg L 14 W.drew W1:=hI.1.trans (stg_no _ _ n2)
     have ec:w8.cell? ⟨p,0,none⟩=some (.pointer (some ⟨g,0,none⟩)):=by rw[hw];exact stg_fact (fun w:World=>w.cell? ⟨p,0,none⟩=some (.pointer (some ⟨g,0,none⟩):Value)) HF2.out.2.1 HF2.out.2.2.2.2.1
     have hI2:=lh (And.intro hI (And.intro hls hw))
     clear hI hwt hun hun2 hcl hls n2 hw
     change Made _ _ (Sem.run _ (execOp (Act.eval (frm _ _ _ [])) _) _)
     simp only[frm]
     go_simp
     refine made_ok ⟨?_,hI2.out.1.2.put fun x hx=>by cases hx;rfl⟩
     rw[stg_set _ _ (by decide),stg_set _ _ (by decide)]
     exact hI2.out.1.1
    ·have h8:vs 8=.pointer (some ⟨g,0,none⟩):=hI.2 8 _ rfl (hwt 8 (by kernel_rfl))
     have n2:L.getD 17 false=false:=hcl.nd hun2 (by kernel_rfl)
     have hw:w8=stg L 14 W.drew W1:=hI.1.trans (stg_no _ _ n2)
     have hI2:=lh (And.intro hI (And.intro hls hw))
     clear hI hwt hun hun2 hcl hls n2 hw
     change Made _ _ (Sem.run _ (execOp (Act.eval (Act.put (frm _ _ _ []) (some 24) (vs 8))) _) _)
     simp only[frm,h8]
     go_simp
     refine made_ok ⟨?_,hI2.out.1.2.put fun x hx=>by cases hx;rfl⟩
     rw[stg_set _ _ (by decide),stg_set _ _ (by decide)]
     exact hI2.out.1.1
    ·have h9:vs 9=.pointer (some ⟨g,0,none⟩):=hI.2 9 _ rfl (hwt 9 (by kernel_rfl))
     have n2:L.getD 17 false=false:=hcl.nd hun2 (by kernel_rfl)
     have hw:w8=stg L 14 W.drew W1:=hI.1.trans (stg_no _ _ n2)
     have hI2:=lh (And.intro hI (And.intro hls hw))
     clear hI hwt hun hun2 hcl hls n2 hw
     change Made _ _ (Sem.run _ (execOp (Act.eval (Act.put (frm _ _ _ []) (some 25) (vs 9))) _) _)
     simp only[frm,h9]
     go_simp
     refine made_ok ⟨?_,hI2.out.1.2.put fun x hx=>by cases hx;rfl⟩
     rw[stg_set _ _ (by decide),stg_set _ _ (by decide)]
     exact hI2.out.1.1
    ·have h10:vs 10=.pointer (some ⟨g,0,none⟩):=hI.2 10 _ rfl (hwt 10 (by kernel_rfl))
     have n2:L.getD 17 false=false:=hcl.nd hun2 (by kernel_rfl)
     have hw:w8=stg L 14 W.drew W1:=hI.1.trans (stg_no _ _ n2)
     have ec:w8.cell? ⟨g,0,none⟩=some (.slice (some ⟨bb,o,none⟩) b.length c):=by rw[hw];exact stg_fact (fun w:World=>w.cell? ⟨g,0,none⟩=some (.slice (some ⟨bb,o,none⟩) b.length c:Value)) HF2.out.1 HF2.out.2.2.2.1
     have hI2:=lh (And.intro hI (And.intro hls hw))
     clear hI hwt hun hun2 hcl hls n2 hw
     change Made _ _ (Sem.run _ (execOp (Act.eval (Act.put (frm _ _ _ []) (some 26) (vs 10))) _) _)
     simp only[frm,h10]
     go_simp
     refine made_ok ⟨?_,hI2.out.1.2.put fun x hx=>by cases hx;rfl⟩
     rw[stg_set _ _ (by decide),stg_set _ _ (by decide)]
     exact hI2.out.1.1
    ·have n2:L.getD 17 false=false:=hcl.nd hun2 (by kernel_rfl)
     have hw:w8=stg L 14 W.drew W1:=hI.1.trans (stg_no _ _ n2)
     have ec:w8.cell? ⟨q,0,none⟩=some (.int .u64 (N:Int)):=by rw[hw];exact stg_fact (fun w:World=>w.cell? ⟨q,0,none⟩=some (.int .u64 (N:Int):Value)) HF2.out.2.2.1 HF2.out.2.2.2.2.2
     have hI2:=lh (And.intro hI (And.intro hls hw))
     clear hI hwt hun hun2 hcl hls n2 hw
     change Made _ _ (Sem.run _ (execOp (Act.eval (frm _ _ _ [])) _) _)
     simp only[frm]
     go_simp
     refine made_ok ⟨?_,hI2.out.1.2.put fun x hx=>by cases hx;rfl⟩
     rw[stg_set _ _ (by decide),stg_set _ _ (by decide)]
     exact hI2.out.1.1
    ·have h11:vs 11=.slice (some ⟨bb,o,none⟩) b.length c:=hI.2 11 _ rfl (hwt 11 (by kernel_rfl))
     have h12:vs 12=.int .u64 (N:Int):=hI.2 12 _ rfl (hwt 12 (by kernel_rfl))
     have n2:L.getD 17 false=false:=hcl.nd hun2 (by kernel_rfl)
     have hw:w8=stg L 14 W.drew W1:=hI.1.trans (stg_no _ _ n2)
     have hlt9:N < c:=by omega
     have hcn:¬ c=N:=by omega
     have hI2:=lh (And.intro hI (And.intro hls hw))
     clear hI hwt hun hun2 hcl hls n2 hw
     change Made _ _ (Sem.run _ (execOp (Act.eval (Act.put (Act.put (frm _ _ _ []) (some 28) (vs 12)) (some 27) (vs 11))) _) _)
     simp only[frm,h11,h12]
     go_simp
     refine made_ok ⟨?_,hI2.out.1.2.put fun x hx=>by cases hx;rfl⟩
     rw[stg_set _ _ (by decide),stg_set _ _ (by decide)]
     exact hI2.out.1.1
    ·have h7:vs 7=.string S:=hI.2 7 _ rfl (hwt 7 (by kernel_rfl))
     have n2:L.getD 17 false=false:=hcl.nd hun2 (by kernel_rfl)
     have hw:w8=W.drew:=hI.1.trans ((stg_no _ _ n2).trans (stg_no _ _ hun2))
     subst hw
     have es:=HF.out.2.2.2.2.2.2.1
     have ef:=HF.out.2.2.2.2.2.2.2.1
     have hI2:=lh (And.intro hI (And.intro hls n2))
     clear hI hwt hun hun2 hcl hls n2
     change Made _ _ (Sem.run _ (execOp (Act.eval (Act.put (frm _ _ _ []) (some 23) (vs 7))) _) _)
     simp only[frm,h7]
     go_simp
     refine made_skip ⟨?_,hI2.out.1.2.put fun x hx=>by cases hx⟩
     rw[stg_set _ _ (by decide),stg_no _ _ hI2.out.2.2,stg_new _ _ (by rw[hI2.out.2.1];decide)]
     exact HW1.out.symm
    ·have h0:vs 0=.pointer (some ⟨g,0,none⟩):=hI.2 0 _ rfl (hwt 0 (by kernel_rfl))
     have n16_:L.getD 16 false=false:=hcl.nd hun2 (by kernel_rfl)
     have n2:L.getD 17 false=false:=hcl.nd n16_ (by kernel_rfl)
     have hw:w8=stg L 14 W.drew W1:=hI.1.trans (stg_no _ _ n2)
     have hI2:=lh (And.intro hI (And.intro hls hw))
     clear hI hwt hun hun2 hcl hls n2 hw
     change Made _ _ (Sem.run _ (execOp (Act.eval (Act.put (frm _ _ _ []) (some 16) (vs 0))) _) _)
     simp only[frm,h0]
     go_simp
     refine made_ok ⟨?_,hI2.out.1.2.put fun x hx=>by cases hx;rfl⟩
     rw[stg_set _ _ (by decide),stg_set _ _ (by decide)]
     exact hI2.out.1.1
    ·have h15:vs 15=.pointer (some ⟨g,0,none⟩):=hI.2 15 _ rfl (hwt 15 (by kernel_rfl))
     have n2:L.getD 17 false=false:=hcl.nd hun2 (by kernel_rfl)
     have hw:w8=stg L 14 W.drew W1:=hI.1.trans (stg_no _ _ n2)
     have hI2:=lh (And.intro hI (And.intro hls hw))
     clear hI hwt hun hun2 hcl hls n2 hw
     change Made _ _ (Sem.run _ (execOp (Act.eval (Act.put (frm _ _ _ []) (some 30) (vs 15))) _) _)
     simp only[frm,h15]
     go_simp
     refine made_ok ⟨?_,hI2.out.1.2.put fun x hx=>by cases hx;rfl⟩
     rw[stg_set _ _ (by decide),stg_set _ _ (by decide)]
     exact hI2.out.1.1
    ·have h13:vs 13=.slice (some ⟨bb,o+N,none⟩) (b.length - N) (c - N):=hI.2 13 _ rfl (hwt 13 (by kernel_rfl))
     have h16:vs 16=.pointer (some ⟨g,0,none⟩):=hI.2 16 _ rfl (hwt 16 (by kernel_rfl))
     have hw:w8=W1:=hI.1.trans ((stg_no _ _ hun2).trans (stg_done _ _ (hwt 14 (by kernel_rfl))))
     subst hw
     have es:=HF2.out.2.2.2.1
     have ef:=HF.out.2.2.2.2.2.2.2.2
     have hI2:=lh (And.intro hI hls)
     clear hI hwt hun hun2 hcl hls
     change Made _ _ (Sem.run _ (execOp (Act.eval (Act.put (Act.put (frm _ _ _ []) (some 31) (vs 16)) (some 29) (vs 13))) _) _)
     simp only[frm,h13,h16]
     go_simp
     refine made_skip ⟨?_,hI2.out.1.2.put fun x hx=>by cases hx⟩
     rw[stg_new _ _ (by rw[hI2.out.2];decide)]
     exact HW2.out.symm
   ·intro L vs w8 hls hall hI
    have hw:w8=W2:=hI.1.trans (stg_done _ _ (hall 17 (by decide)))
    have h0:vs 0=.pointer (some ⟨g,0,none⟩):=hI.2 0 _ rfl (hall 0 (by decide))
    have h1:vs 1=.pointer (some ⟨g,0,none⟩):=hI.2 1 _ rfl (hall 1 (by decide))
    have h2:vs 2=.pointer (some ⟨g,0,none⟩):=hI.2 2 _ rfl (hall 2 (by decide))
    have h3:vs 3=.pointer (some ⟨g,0,none⟩):=hI.2 3 _ rfl (hall 3 (by decide))
    have h4:vs 4=.slice (some ⟨bb,o,none⟩) b.length c:=hI.2 4 _ rfl (hall 4 (by decide))
    have h5:vs 5=.int .u64 (N:Int):=hI.2 5 _ rfl (hall 5 (by decide))
    have h6:vs 6=.slice (some ⟨bb,o,none⟩) N c:=hI.2 6 _ rfl (hall 6 (by decide))
    have h7:vs 7=.string S:=hI.2 7 _ rfl (hall 7 (by decide))
    have h8:vs 8=.pointer (some ⟨g,0,none⟩):=hI.2 8 _ rfl (hall 8 (by decide))
    have h9:vs 9=.pointer (some ⟨g,0,none⟩):=hI.2 9 _ rfl (hall 9 (by decide))
    have h10:vs 10=.pointer (some ⟨g,0,none⟩):=hI.2 10 _ rfl (hall 10 (by decide))
    have h11:vs 11=.slice (some ⟨bb,o,none⟩) b.length c:=hI.2 11 _ rfl (hall 11 (by decide))
    have h12:vs 12=.int .u64 (N:Int):=hI.2 12 _ rfl (hall 12 (by decide))
    have h13:vs 13=.slice (some ⟨bb,o+N,none⟩) (b.length - N) (c - N):=hI.2 13 _ rfl (hall 13 (by decide))
    have h15:vs 15=.pointer (some ⟨g,0,none⟩):=hI.2 15 _ rfl (hall 15 (by decide))
    have h16:vs 16=.pointer (some ⟨g,0,none⟩):=hI.2 16 _ rfl (hall 16 (by decide))
    change wpList _ _ _ [] (Act.put (Act.put (Act.put (Act.put (Act.put (Act.put (Act.put (Act.put (Act.put (Act.put (Act.put (Act.put (Act.put (Act.put (Act.put (Act.put (Act.put (Act.put (frm _ _ _ []) none (vs 17)) (some 31) (vs 16)) (some 30) (vs 15)) none (vs 14)) (some 29) (vs 13)) (some 28) (vs 12)) (some 27) (vs 11)) (some 26) (vs 10)) (some 25) (vs 9)) (some 24) (vs 8)) (some 23) (vs 7)) (some 22) (vs 6)) (some 21) (vs 5)) (some 20) (vs 4)) (some 19) (vs 3)) (some 18) (vs 2)) (some 17) (vs 1)) (some 16) (vs 0)) _
    simp only[frm,h0,h1,h2,h3,h4,h5,h6,h7,h8,h9,h10,h11,h12,h13,h15,h16]
    generalize vs 14=vz14
    generalize vs 17=vz17
    rw[hw]
    clear hw hI hall hls h0 h1 h2 h3 h4 h5 h6 h7 h8 h9 h10 h11 h12 h13 h15 h16
    clear hN63 hw2
    have HSD:Hid (Sl W2 1 (some ⟨bb,o+N,none⟩) (b.drop N).length (byts (b.drop N))):=lh (by
     refine⟨by rw[byts_len,Nat.mul_one],?_⟩
     rcases HSL.out.2 with h0 | ⟨b',o',e,hbl,hc⟩
     ·have h0b:b.length=0:=h0
      left;rw[List.length_drop];omega
     ·cases e
      refine .inr ⟨bb,o+N,rfl,Nat.lt_of_lt_of_le hbl (by rw[HW2.out,HW1.out];simp),fun j x hx=>?_⟩
      rw[HW2.out,HW1.out]
      have h1:(byts b)[N+j]?=some x:=by
       unfold byts at hx ⊢
       rw[List.getElem?_map] at hx ⊢
       rw[List.getElem?_drop] at hx
       exact hx
      have h2:=hc (N+j) x h1
      rw[show o+(N+j)=o+N+j by omega] at h2
      refine(World.cell?_of_block (a:=⟨bb,o+N+j,none⟩) ?_).trans h2
      exact(Below.heap_setCell _ _ _ _ (fun e=>H.out.ne e)).trans (Below.heap_setCell _ _ _ _ (fun e=>hsb e.symm)))
    have HK2:Hid (Kp (fun k=>k=g ∨ k=s) w W2):=lh (by rw[HW2.out];exact(HB1.out.2.2.mono (T:=fun k=>k=g ∨ k=s) fun _ _ h=>.inr h).trans (Kp.setCell (S:=fun k=>k=g) _ ⟨g,0,none⟩ _ rfl) fun _ _ h=>.inl h)
    have HS2:Hid (Bk W2 s 9 #[.string S]):=lh (by rw[HW2.out];exact HB1.out.2.1.far (p:=⟨g,0,none⟩) (fun e=>HNE.out.1 e.symm) _)
    have HHSZ:=lh HSL
    clear HF HF2 HCW
    go_wp2_with fail
    go_ret
    exact⟨rfl,⟨some ⟨bb,o+N,none⟩,c - N,⟨by rw[HW2.out];dsimp only;rw[List.length_drop];exact HB1.out.1.set 0 _,by dsimp only;rw[List.length_drop];exact Nat.sub_le_sub_right hcp N,Nat.le_trans (Nat.sub_le c N) hcm,HSD.out,fun b o m e=>(by cases e;exact⟨rfl,rfl⟩),fun e=>(by cases e),H.out.ne,H.out.b8.drop N⟩⟩,by have h9:=HS2.out;rw[HS.out] at h9;exact h9,HK2.out⟩
end
end
end Go.Proofs.YtmbnlccafcfbeaaGreatDoor
