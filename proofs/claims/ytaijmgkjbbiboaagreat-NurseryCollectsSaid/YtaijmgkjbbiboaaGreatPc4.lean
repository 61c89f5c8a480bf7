/- Parts of the proof: Space3, MapT, Cards. -/
import Derived.Deep.CutRange
import Derived.Maps.Own
import Derived.Maps.OwnOps
import Derived.Maps.OwnSet
import Derived.Outline
import Derived.Test.YtaijmgkjbbiboaaGreatPcA
import Derived.Test.YtaijmgkjbbiboaaGreatPc0
import Derived.Test.YtaijmgkjbbiboaaGreatPc3
set_option linter.unusedVariables false
set_option linter.unusedSimpArgs false
set_option linter.unusedSectionVars false
set_option maxRecDepth 100000
namespace Go.Proofs.YtaijmgkjbbiboaaGreat
section
open Go.RowKit Go.Sort
theorem below_box2 {w w1:World} {o o':Obj} (hb:Below ((w.alloc o).alloc o').heap.size ((w.alloc o).alloc o') w1):Below w.heap.size w w1 :=
 (((Below.refl w.heap.size w).alloc (Nat.le_refl _) o).alloc (by simp) o').trans (hb.mono (by simp;omega))
theorem box2_a {w w1:World} {C:Array Value} {t:TypeId} {o':Obj} (hb:Below ((w.alloc (.cells C t)).alloc o').heap.size ((w.alloc (.cells C t)).alloc o') w1):Bk w1 w.heap.size t C :=
 ((Bk.new w t C).alloc o').below hb (by simp;omega)
theorem box2_b {w w1:World} {C:Array Value} {t:TypeId} {o:Obj} (hb:Below ((w.alloc o).alloc (.cells C t)).heap.size ((w.alloc o).alloc (.cells C t)) w1):Bk w1 (w.heap.size+1) t C :=
 (Bk.here (w.alloc o) t C (by simp)).below hb (by simp)
theorem quiet_below_one {w w3:World} (h:∃ p:Regrown,w3=grow (redrawn w p.d) p.os):Below w.heap.size w w3:=by obtain⟨pp,rfl⟩:=h;exact below_regrown _ _ _
def alcV (s:Spc) (h:Hdr) (i:Id):Value:=.tuple #[.int .i64 (s.alloc h i).2.2,.int .i64 (s.alloc h i).1]
/-- what an allocation leaves -/
def AlcP (w:World) (B g:Nat) (s:Spc) (V:Value) (h:Hdr) (i:Id) (e:Ending) (w':World):Prop :=
 e=.returned (alcV s h i)∧(∃ V',SpR w' B g (s.alloc h i).2.1 V'∧∀ k,V'.ownBlock=some k→V.ownBlock=some k ∨ w.heap.size≤k)∧Kp (fun k=>k=g ∨ V.ownBlock=some k) w w'
theorem AlcP.same {w w':World} {B g:Nat} {s:Spc} {V:Value} {h:Hdr} {i:Id} {er:Int} (hs:SpR w B g s V) (ha:s.alloc h i=(er,s,0)) (hb:Below w.heap.size w w'):AlcP w B g s V h i (.returned (.tuple #[.int .i64 0,.int .i64 er])) w':=by
 refine⟨by unfold alcV;rw[ha],⟨V,by rw[ha];exact hs.below hb,fun k hk=>.inl hk⟩,Kp.of_below hb⟩
theorem wp_region_sepN {id:Nat} {a0:Act} {W:World} {l:List Oper} {P:Program} {Q:Exit→Act→World→Prop} (N n:Nat) (ds eats:Nat→List Nat) (R:Nat→Value→World→Prop) (ob:Nat→Value→Option Nat) (hm:P.follows .mixedOrders=true) (hB:sepB l.toArray l.length n ds eats=true)
  (hN0:a0.tmps.size=N) (hN:(List.range n).all (fun i=>match dstOf l.toArray i with | some d=>decide (d < N) | none=>true)=true)
  (hloc:∀ i v w w',i < n→R i v w→Below W.heap.size W w→Below W.heap.size W w'→w.heap.size≤w'.heap.size→(∀ k,ob i v=some k→w'.heap[k]?=w.heap[k]?)→R i v w')
  (hstep:∀ i,i < n→∀ o,l[i]?=some o→∀ vs w,Given R ob W vs (ds i) w→Made P (Lays R ob W vs (eats i) i w) ((execOp (frm l.toArray a0 vs (ds i)).eval o).run P w))
  (hend:∀ vs w,Below W.heap.size W w→(∀ i,i < n→(∀ j,j < n→i ∉ eats j)→R i (vs i) w∧∀ k,ob i (vs i)=some k→W.heap.size≤k∧k < w.heap.size) →
   (∀ i,i < n→(∀ j,j < n→i ∉ eats j)→∀ i',i' < n→(∀ j,j < n→i' ∉ eats j)→i≠i'→∀ k,ob i (vs i)=some k→ob i' (vs i')≠some k)→wpList P l.toArray Q (l.drop n) (frm l.toArray a0 vs (List.range n)) w) :
  (Code.region id l.toArray true).wp P Q a0 W :=
 wp_region_sep n ds eats R ob hm hB (by subst hN0;exact hN) hloc hstep hend
def newOf (W:World) (v:Value):Option Nat:=match blkOf v with | some k=>if W.heap.size≤k then some k else none | none=>none
theorem newOf_slice {W:World} {g o l cap k:Nat} (h:newOf W (.slice (some ⟨g,o,none⟩) l cap)=some k):g=k∧W.heap.size≤k:=by
 simp only[newOf,blkOf] at h
 split at h
 ·cases h;exact⟨rfl,by assumption⟩
 ·cases h
theorem bk_new {W w w':World} {g o l cap:Nat} {t:TypeId} {cur:Array Value} (hw:Below W.heap.size W w) (hw':Below W.heap.size W w') (h:Bk w g t cur) (hk:∀ k,newOf W (.slice (some ⟨g,o,none⟩) l cap)=some k→w'.heap[k]?=w.heap[k]?):Bk w' g t cur:=by
 rcases Nat.lt_or_ge g W.heap.size with h1 | h1
 ·exact((hw'.block g h1).trans (hw.block g h1).symm).trans h
 ·exact(hk g (by simp only[newOf,blkOf];rw[if_pos h1])).trans h
theorem lays_below {R:Nat→Value→World→Prop} {ob:Nat→Value→Option Nat} {W:World} {vs:Nat→Value} {eat:List Nat} {i:Nat} {v:Value} {w w':World} (hb:Below w.heap.size w w') (h:R i v w') (ho:∀ k,ob i v=some k→k < w'.heap.size∧W.heap.size≤k∧(w.heap.size≤k ∨ ∃ j∈eat,ob j (vs j)=some k)):Lays R ob W vs eat i w v w' :=
 ⟨h,hb.os,hb.tape,hb.output,hb.size,fun k hk _=>hb.block k hk,ho⟩
def SAR (W:World) (B g l n:Nat) (A:Option Addr) (c:Nat) (xs:List Value):Nat→Value→World→Prop
 | 0,v,_=>v=.pointer (some ⟨g,0,none⟩)
 | 1,v,_=>v=.pointer (some ⟨g,0,none⟩)
 | 2,v,_=>v=.pointer (some ⟨g,0,none⟩)
 | 3,v,_=>v=.pointer (some ⟨g,2,none⟩)
 | 4,v,_=>v=.slice A l c
 | 5,v,_=>v=.int .i64 (n:Int)
 | 6,v,w=>∃ g5 cap cur,v=.slice (some ⟨g5,0,none⟩) l cap∧Bk w g5 54 cur∧l+n≤cap∧cap≤maxLen∧cur.size=cap∧cur.toList.take l=xs∧B≤g5∧((Value.slice A l c).ownBlock=some g5 ∨ W.heap.size≤g5)
 | 7,v,_=>v=.pointer (some ⟨g,0,none⟩)
 | 8,v,_=>v=.pointer (some ⟨g,0,none⟩)
 | 9,v,_=>v=.pointer (some ⟨g,2,none⟩)
 | 10,v,_=>v=.slice A l c
 | 11,v,_=>v=.int .i64 (l:Int)
 | 12,v,_=>v=.int .i64 (n:Int)
 | 13,v,_=>v=.int .i64 ((l:Int)+(n:Int))
 | 14,v,w=>∃ g5 cap cur,v=.slice (some ⟨g5,0,none⟩) (l+n) cap∧Bk w g5 54 cur∧l+n≤cap∧cap≤maxLen∧cur.size=cap∧cur.toList.take l=xs∧B≤g5∧((Value.slice A l c).ownBlock=some g5 ∨ W.heap.size≤g5)
 | 15,v,_=>v=.pointer (some ⟨g,0,none⟩)
 | 16,v,_=>v=.pointer (some ⟨g,2,none⟩)
 | _,_,_=>False
def SAO (W:World):Nat→Value→Option Nat
 | 6,v=>newOf W v
 | 14,v=>newOf W v
 | _,_=>none
def SAds:Nat→List Nat
 | 2=>[1]
 | 3=>[2]
 | 4=>[3]
 | 6=>[4,5]
 | 8=>[7]
 | 9=>[8]
 | 10=>[9]
 | 11=>[10]
 | 13=>[11,12]
 | 14=>[6,13]
 | 15=>[0]
 | 16=>[15]
 | _=>[]
def SAeat:Nat→List Nat
 | 14=>[6]
 | _=>[]
theorem SAR_loc {W:World} {B g l n:Nat} {A:Option Addr} {c:Nat} {xs:List Value} (i:Nat) (v:Value) (w w':World) (hi:i < 17) (h:SAR W B g l n A c xs i v w) (hw:Below W.heap.size W w) (hw':Below W.heap.size W w') (hk:∀ k,SAO W i v=some k→w'.heap[k]?=w.heap[k]?):SAR W B g l n A c xs i v w':=by
 rcases (show i=0 ∨ i=1 ∨ i=2 ∨ i=3 ∨ i=4 ∨ i=5 ∨ i=6 ∨ i=7 ∨ i=8 ∨ i=9 ∨ i=10 ∨ i=11 ∨ i=12 ∨ i=13 ∨ i=14 ∨ i=15 ∨ i=16 by omega) with rfl | rfl | rfl | rfl | rfl | rfl | rfl | rfl | rfl | rfl | rfl | rfl | rfl | rfl | rfl | rfl | rfl
 ·exact h
 ·exact h
 ·exact h
 ·exact h
 ·exact h
 ·exact h
 ·obtain⟨g5,cap,cur,rfl,h2,h3⟩:=h;exact⟨g5,cap,cur,rfl,bk_new (l:=0) (cap:=0) hw hw' h2 hk,h3⟩
 ·exact h
 ·exact h
 ·exact h
 ·exact h
 ·exact h
 ·exact h
 ·exact h
 ·obtain⟨g5,cap,cur,rfl,h2,h3⟩:=h;exact⟨g5,cap,cur,rfl,bk_new (l:=0) (cap:=0) hw hw' h2 hk,h3⟩
 ·exact h
 ·exact h
section
variable {w:World} {B g:Nat} {s:Spc} {V:Value}
set_option maxHeartbeats 2000000 in
theorem SAlloc_badH (h:SpR w B g s V) (hd:Hdr) (i:Id) (hv:vH hd=false):Calls Tryz.prog 44 #[.pointer (some ⟨g,0,none⟩),hd.val,i.val] w (AlcP w B g s V hd i):=by
 have HA:=lh (show s.alloc hd i=(1,s,0) by unfold Spc.alloc;rw[if_pos (.inl hv)])
 have cE:=fun w=>Encode_any hd w
 unfold encV at cE
 simp only[hv,Bool.false_eq_true,if_false] at cE
 unfold Hdr.val Id.val at *
 have H:=lh h
 clear h hv
 go_enter Tryz.func44,Tryz.ntmps44
 go_wp2_with fail
 refine(cE _).mono ?_
 rintro e w1 ⟨rfl,hb⟩
 have HB:=lh (below_box2 hb)
 clear hb
 go_wp2_with fail
 go_ret2
 exact AlcP.same H.out HA.out HB.out
set_option maxHeartbeats 2000000 in
theorem SAlloc_badI (h:SpR w B g s V) (hd:Hdr) (i:Id) (hv:vH hd=true) (hi:vI i=false):Calls Tryz.prog 44 #[.pointer (some ⟨g,0,none⟩),hd.val,i.val] w (AlcP w B g s V hd i):=by
 have HA:=lh (show s.alloc hd i=(1,s,0) by unfold Spc.alloc;rw[if_pos (.inr hi)])
 have cE:=fun w=>Encode_any hd w
 have cI:=fun w=>EncodeID_any i w
 unfold encV at cE
 unfold encIV at cI
 simp only[hv,hi,Bool.false_eq_true,if_false,if_true] at cE cI
 unfold Hdr.val Id.val at *
 have H:=lh h
 clear h hv hi
 go_enter Tryz.func44,Tryz.ntmps44
 go_wp2_with fail
 refine(cE _).mono ?_
 rintro e w1 ⟨rfl,hb⟩
 have HB:=lh (below_box2 hb)
 have p0:w1.cell? ⟨w.heap.size+1,0,none⟩=some (.int .i64 i.m):=(box2_b hb).cell 0
 have p1:w1.cell? ⟨w.heap.size+1,1,none⟩=some (.int .i64 i.s):=(box2_b hb).cell 1
 clear hb
 go_wp2_with fail
 refine(cI _).mono ?_
 rintro e w2 ⟨rfl,hb2⟩
 have HB2:=lh (HB.out.trans (hb2.mono HB.out.size))
 clear hb2 p0 p1
 go_wp2_with fail
 go_ret2
 exact AlcP.same H.out HA.out HB2.out
set_option maxHeartbeats 2000000 in
theorem SAlloc_big (h:SpR w B g s V) (hd:Hdr) (i:Id) (hv:vH hd=true) (hi:vI i=true) (hlg:s.limit - s.top < wH hd):Calls Tryz.prog 44 #[.pointer (some ⟨g,0,none⟩),hd.val,i.val] w (AlcP w B g s V hd i):=by
 have HA:=lh (show s.alloc hd i=(8,s,0) by unfold Spc.alloc;rw[if_neg (by rw[hv,hi];simp),if_pos hlg])
 have cE:=fun w=>Encode_any hd w
 have cI:=fun w=>EncodeID_any i w
 have cW:=fun w=>Words_any hd w
 unfold encV at cE
 unfold encIV at cI
 simp only[hv,hi,Bool.false_eq_true,if_false,if_true] at cE cI
 have b0:=h.b0
 have b1:=h.lim
 have b2:=h.l0
 have bw:=wH_bound hd
 unfold Spc.top at hlg
 unfold Hdr.val Id.val at *
 have H:=lh h
 clear h hv hi
 go_enter Tryz.func44,Tryz.ntmps44
 go_wp2_with fail
 refine(cE _).mono ?_
 rintro e w1 ⟨rfl,hb⟩
 have HB:=lh (below_box2 hb)
 have hq:=box2_a hb
 have HQ:=lh hq
 have p0:w1.cell? ⟨w.heap.size+1,0,none⟩=some (.int .i64 i.m):=(box2_b hb).cell 0
 have p1:w1.cell? ⟨w.heap.size+1,1,none⟩=some (.int .i64 i.s):=(box2_b hb).cell 1
 clear hb hq
 go_wp2_with fail
 refine(cI _).mono ?_
 rintro e w2 ⟨rfl,hb2⟩
 have HB2:=lh (HB.out.trans (hb2.mono HB.out.size))
 have H2:=lh (H.out.below HB2.out)
 have k0:w2.cell? ⟨w.heap.size,0,none⟩=some (.int .i64 hd.k):=(HQ.out.below hb2 HQ.out.lt).cell 0
 have k1:w2.cell? ⟨w.heap.size,1,none⟩=some (.int .i64 hd.c):=(HQ.out.below hb2 HQ.out.lt).cell 1
 have k2:w2.cell? ⟨w.heap.size,2,none⟩=some (.int .i64 hd.f):=(HQ.out.below hb2 HQ.out.lt).cell 2
 have c1:w2.cell? ⟨g,1,none⟩=some (.int .i64 s.limit):=H2.out.hd.cell 1
 clear hb2 p0 p1
 have q0:=fun dd os=>cell_regrown k0 dd os
 have q1:=fun dd os=>cell_regrown k1 dd os
 have q2:=fun dd os=>cell_regrown k2 dd os
 have cT:=fun dd os=>Calls.regrown_of (Top_any (H2.out.below (below_regrown w2 dd os)))
 have cW2:=fun dd os=>Calls.regrown_of (cW (grow (redrawn w2 dd) os))
 unfold Spc.top at cT
 go_wp2_with fail
 refine wp_region_quiet_below (by kernel_rfl) (by kernel_rfl) ?_
 repeat (quiet_step (first | with_reducible exact cT _ _ | with_reducible exact cW2 _ _))
 refine wpQuiet_nil ?_
 intro w3 hw'
 have hb3:=quiet_below_one hw'
 have HB3:=lh (HB2.out.trans (hb3.mono HB2.out.size))
 have c1':w3.cell? ⟨g,1,none⟩=some (.int .i64 s.limit):=(H2.out.below hb3).hd.cell 1
 clear hw' hb3 cT cW2 q0 q1 q2 k0 k1 k2 c1 cW
 go_wp2_with fail
 go_ret2
 exact AlcP.same H.out HA.out HB3.out
set_option maxHeartbeats 2000000 in
theorem SAlloc_ok (h:SpR w B g s V) (hd:Hdr) (i:Id) (hv:vH hd=true) (hi:vI i=true) (hlg:wH hd≤s.limit - s.top) (hB:B≤w.heap.size):Calls Tryz.prog 44 #[.pointer (some ⟨g,0,none⟩),hd.val,i.val] w (AlcP w B g s V hd i):=by
 have cE:=fun w=>Encode_any hd w
 have cI:=fun w=>EncodeID_any i w
 have cW:=fun w=>Words_any hd w
 unfold encV at cE
 unfold encIV at cI
 simp only[hv,hi,Bool.false_eq_true,if_false,if_true] at cE cI
 have b0:=h.b0
 have b1:=h.lim
 have b2:=h.l0
 have bw:=wH_bound hd
 have bw4:=(wH_ge hv).1
 unfold Spc.top at hlg
 have HV:=lh hv
 have HI:=lh hi
 unfold Hdr.val Id.val at *
 have H:=lh h
 clear h hv hi
 go_enter Tryz.func44,Tryz.ntmps44
 go_wp2_with fail
 refine(cE _).mono ?_
 rintro e w1 ⟨rfl,hb⟩
 have HB:=lh (below_box2 hb)
 have hq:=box2_a hb
 have HQ:=lh hq
 have p0:w1.cell? ⟨w.heap.size+1,0,none⟩=some (.int .i64 i.m):=(box2_b hb).cell 0
 have p1:w1.cell? ⟨w.heap.size+1,1,none⟩=some (.int .i64 i.s):=(box2_b hb).cell 1
 clear hb hq
 go_wp2_with fail
 refine(cI _).mono ?_
 rintro e w2 ⟨rfl,hb2⟩
 have HB2:=lh (HB.out.trans (hb2.mono HB.out.size))
 have H2:=lh (H.out.below HB2.out)
 have k0:w2.cell? ⟨w.heap.size,0,none⟩=some (.int .i64 hd.k):=(HQ.out.below hb2 HQ.out.lt).cell 0
 have k1:w2.cell? ⟨w.heap.size,1,none⟩=some (.int .i64 hd.c):=(HQ.out.below hb2 HQ.out.lt).cell 1
 have k2:w2.cell? ⟨w.heap.size,2,none⟩=some (.int .i64 hd.f):=(HQ.out.below hb2 HQ.out.lt).cell 2
 have c1:w2.cell? ⟨g,1,none⟩=some (.int .i64 s.limit):=H2.out.hd.cell 1
 clear hb2 p0 p1
 have q0:=fun dd os=>cell_regrown k0 dd os
 have q1:=fun dd os=>cell_regrown k1 dd os
 have q2:=fun dd os=>cell_regrown k2 dd os
 have cT:=fun dd os=>Calls.regrown_of (Top_any (H2.out.below (below_regrown w2 dd os)))
 have cW2:=fun dd os=>Calls.regrown_of (cW (grow (redrawn w2 dd) os))
 unfold Spc.top at cT
 go_wp2_with fail
 refine wp_region_quiet_below (by kernel_rfl) (by kernel_rfl) ?_
 repeat (quiet_step (first | with_reducible exact cT _ _ | with_reducible exact cW2 _ _))
 refine wpQuiet_nil ?_
 intro w3 hw'
 have hb3:=quiet_below_one hw'
 have HB3:=lh (HB2.out.trans (hb3.mono HB2.out.size))
 have H3:=lh (H2.out.below hb3)
 have hown:=H3.out.own
 obtain⟨A,c,rfl,hle⟩:=own_shape hown
 have OWN:=lh hown
 have c1':w3.cell? ⟨g,1,none⟩=some (.int .i64 s.limit):=H3.out.hd.cell 1
 have c2':w3.cell? ⟨g,2,none⟩=some (.slice A s.ws.length c):=H3.out.hd.cell 2
 have f2':w3.frozen? ⟨g,2,none⟩=false:=H3.out.hd.free 2
 have hgl:g < w3.heap.size:=H3.out.hd.lt
 have HB0:Hid (B≤w3.heap.size):=lh (Nat.le_trans hB HB3.out.size)
 obtain⟨n,hn⟩:=Int.eq_ofNat_of_zero_le bw.1
 have bw1:=bw.2
 have HN:=lh hn
 rw[hn] at hlg bw1 bw4 ⊢
 have hw5:IntKind.i64.wrap ((s.ws.length:Int)+(n:Int))=(s.ws.length:Int)+(n:Int):=IntWalk.i64_in _ (by omega)
 have hw6:((s.ws.length:Int)+(n:Int)).toNat=s.ws.length+n:=by omega
 have hw7:(0:Int)≤(s.ws.length:Int)+(n:Int):=by omega
 clear hw' hb3 cI cE cT cW2 q0 q1 q2 k0 k1 k2 c1 cW hown hn bw
 go_wp2_with fail
 refine wp_region_sepN 76 17 SAds SAeat (SAR w3 B g s.ws.length n A c (wds s.ws)) (SAO w3) (by kernel_rfl) (by kernel_rfl) rfl (by kernel_rfl) (fun i v w1 w2 hi h h1 h2 _ hk=>SAR_loc i v w1 w2 hi h h1 h2 hk) ?_ ?_
 ·intro i hi o ho vs w1 hg
  have hWs:=hg.1.size
  have b2:w1.cell? ⟨g,2,none⟩=some (.slice A s.ws.length c):=((bcell hg.1).1 _ _ hgl).trans c2'
  have HG:=lh hg
  have hgr:=hg.2.1
  clear hg c1' c2' f2'
  rcases (show i=0 ∨ i=1 ∨ i=2 ∨ i=3 ∨ i=4 ∨ i=5 ∨ i=6 ∨ i=7 ∨ i=8 ∨ i=9 ∨ i=10 ∨ i=11 ∨ i=12 ∨ i=13 ∨ i=14 ∨ i=15 ∨ i=16 by omega) with rfl | rfl | rfl | rfl | rfl | rfl | rfl | rfl | rfl | rfl | rfl | rfl | rfl | rfl | rfl | rfl | rfl <;> cases ho
  ·clear hgr
   change Made _ _ (Sem.run _ (execOp (Act.eval (frm _ _ _ [])) _) _)
   simp only[frm]
   go_simp
   exact lays_pure rfl rfl
  ·clear hgr
   change Made _ _ (Sem.run _ (execOp (Act.eval (frm _ _ _ [])) _) _)
   simp only[frm]
   go_simp
   exact lays_pure rfl rfl
  ·have h1:vs 1=_:=(hgr 1 (by simp[SAds])).1
   clear hgr
   change Made _ _ (Sem.run _ (execOp (Act.eval (Act.put (frm _ _ _ []) (some 41) (vs 1))) _) _)
   simp only[frm,h1]
   go_simp
   exact lays_pure rfl rfl
  ·have h2:vs 2=_:=(hgr 2 (by simp[SAds])).1
   clear hgr
   change Made _ _ (Sem.run _ (execOp (Act.eval (Act.put (frm _ _ _ []) (some 42) (vs 2))) _) _)
   simp only[frm,h2]
   go_simp
   exact lays_pure rfl rfl
  ·have h3:vs 3=_:=(hgr 3 (by simp[SAds])).1
   clear hgr
   change Made _ _ (Sem.run _ (execOp (Act.eval (Act.put (frm _ _ _ []) (some 43) (vs 3))) _) _)
   simp only[frm,h3]
   go_simp
   exact lays_pure rfl rfl
  ·clear hgr
   change Made _ _ (Sem.run _ (execOp (Act.eval (frm _ _ _ [])) _) _)
   simp only[frm]
   go_simp
   exact lays_pure rfl rfl
  ·have h4:vs 4=_:=(hgr 4 (by simp[SAds])).1
   have h5:vs 5=_:=(hgr 5 (by simp[SAds])).1
   clear hgr
   change Made _ _ (Sem.run _ (execOp (Act.eval (Act.put (Act.put (frm _ _ _ []) (some 45) (vs 5)) (some 44) (vs 4))) _) _)
   simp only[frm,h4,h5]
   go_simp
   refine(Grow_any (w:=w1) (own_local OWN.out fun k hk=>HG.out.1.block k (OWN.out.lt k hk).2) (Nat.le_trans HB0.out hWs) (by omega) (by omega) (by omega)).mono ?_
   rintro e w5 ⟨g5,cap5,cur5,rfl,hk5,hl5,hm5,hs5,ht5,hg5,hv5,hb5⟩
   refine⟨_,rfl,lays_below hb5 ⟨g5,cap5,cur5,rfl,hk5,hl5,hm5,hs5,ht5,hg5,hv5.imp id (Nat.le_trans hWs)⟩ fun k hk=>?_⟩
   obtain⟨rfl,h1⟩:=newOf_slice (l:=0) (cap:=0) hk
   exact⟨hk5.lt,h1,.inl (hv5.resolve_left fun h2=>by have:=(OWN.out.lt _ h2).2;omega)⟩
  ·clear hgr
   change Made _ _ (Sem.run _ (execOp (Act.eval (frm _ _ _ [])) _) _)
   simp only[frm]
   go_simp
   exact lays_pure rfl rfl
  ·have h7:vs 7=_:=(hgr 7 (by simp[SAds])).1
   clear hgr
   change Made _ _ (Sem.run _ (execOp (Act.eval (Act.put (frm _ _ _ []) (some 47) (vs 7))) _) _)
   simp only[frm,h7]
   go_simp
   exact lays_pure rfl rfl
  ·have h8:vs 8=_:=(hgr 8 (by simp[SAds])).1
   clear hgr
   change Made _ _ (Sem.run _ (execOp (Act.eval (Act.put (frm _ _ _ []) (some 48) (vs 8))) _) _)
   simp only[frm,h8]
   go_simp
   exact lays_pure rfl rfl
  ·have h9:vs 9=_:=(hgr 9 (by simp[SAds])).1
   clear hgr
   change Made _ _ (Sem.run _ (execOp (Act.eval (Act.put (frm _ _ _ []) (some 49) (vs 9))) _) _)
   simp only[frm,h9]
   go_simp
   exact lays_pure rfl rfl
  ·have h10:vs 10=_:=(hgr 10 (by simp[SAds])).1
   clear hgr
   change Made _ _ (Sem.run _ (execOp (Act.eval (Act.put (frm _ _ _ []) (some 50) (vs 10))) _) _)
   simp only[frm,h10]
   go_simp
   exact lays_pure rfl rfl
  ·clear hgr
   change Made _ _ (Sem.run _ (execOp (Act.eval (frm _ _ _ [])) _) _)
   simp only[frm]
   go_simp
   exact lays_pure rfl rfl
  ·have h11:vs 11=_:=(hgr 11 (by simp[SAds])).1
   have h12:vs 12=_:=(hgr 12 (by simp[SAds])).1
   clear hgr
   change Made _ _ (Sem.run _ (execOp (Act.eval (Act.put (Act.put (frm _ _ _ []) (some 52) (vs 12)) (some 51) (vs 11))) _) _)
   simp only[frm,h11,h12]
   go_simp
   exact lays_pure rfl rfl
  ·obtain⟨g5,cap5,cur5,h6,hk5,hl5,hm5,hs5,ht5,hg5,hv5⟩:=(hgr 6 (by simp[SAds])).1
   have h13:vs 13=_:=(hgr 13 (by simp[SAds])).1
   clear hgr
   change Made _ _ (Sem.run _ (execOp (Act.eval (Act.put (Act.put (frm _ _ _ []) (some 53) (vs 13)) (some 46) (vs 6))) _) _)
   simp only[frm,h6,h13]
   have i1:(s.ws.length:Int)+(n:Int)≤(cap5:Int):=by omega
   go_simp
   exact lays_take HG.out (j:=6) (by simp[SAeat]) (by simp[SAds]) ⟨g5,cap5,cur5,rfl,hk5,hl5,hm5,hs5,ht5,hg5,hv5⟩ (by rw[h6];rfl)
  ·have h0:vs 0=_:=(hgr 0 (by simp[SAds])).1
   clear hgr
   change Made _ _ (Sem.run _ (execOp (Act.eval (Act.put (frm _ _ _ []) (some 40) (vs 0))) _) _)
   simp only[frm,h0]
   go_simp
   exact lays_pure rfl rfl
  ·have h15:vs 15=_:=(hgr 15 (by simp[SAds])).1
   clear hgr
   change Made _ _ (Sem.run _ (execOp (Act.eval (Act.put (frm _ _ _ []) (some 55) (vs 15))) _) _)
   simp only[frm,h15]
   go_simp
   exact lays_pure rfl rfl
 ·intro vs w1 hb hall hap
  obtain⟨⟨g5,cap5,cur5,h14,hk5,hl5,hm5,hs5,ht5,hg5,hv5⟩,q14⟩:=hall 14 (by omega) (by decide)
  have h16:vs 16=_:=(hall 16 (by omega) (by decide)).1
  change wpList _ _ _ [_] (Act.put (Act.put (Act.put (Act.put (Act.put (Act.put (Act.put (Act.put (Act.put (Act.put (Act.put (Act.put (Act.put (Act.put (Act.put (Act.put (Act.put (frm _ _ _ []) (some 56) (vs 16)) (some 55) (vs 15)) (some 54) (vs 14)) (some 53) (vs 13)) (some 52) (vs 12)) (some 51) (vs 11)) (some 50) (vs 10)) (some 49) (vs 9)) (some 48) (vs 8)) (some 47) (vs 7)) (some 46) (vs 6)) (some 45) (vs 5)) (some 44) (vs 4)) (some 43) (vs 3)) (some 42) (vs 2)) (some 41) (vs 1)) (some 40) (vs 0)) _
  simp only[frm,h14,h16]
  have hgg:g5≠g:=fun e=>by
   have h1:=H3.out.hd.below hb H3.out.hd.lt
   subst e
   have h2:=hk5
   unfold Bk at h1 h2
   rw[h1] at h2
   cases h2
  have hg1:=H3.out.hd.below hb H3.out.hd.lt
  have HK5:=lh hk5
  have HHD:=lh hg1
  have HB5:=lh hb
  have HT5:=lh ht5
  have HM5:=lh hm5
  have c0:w1.cell? ⟨g,2,none⟩=some (.slice A s.ws.length c):=hg1.cell 2
  have f0:w1.frozen? ⟨g,2,none⟩=false:=hg1.free 2
  clear hall hap q14 hb hk5 hg1 c1' c2' f2' ht5
  go_wp2_with fail
  have hb6:Bk (w1.setCell ⟨g,2,none⟩ (.slice (some ⟨g5,0,none⟩) (s.ws.length+n) cap5)) g 123 #[.int .i64 s.base,.int .i64 s.limit,.slice (some ⟨g5,0,none⟩) (s.ws.length+n) cap5]:=HHD.out.set 2 _
  have hk6:Bk (w1.setCell ⟨g,2,none⟩ (.slice (some ⟨g5,0,none⟩) (s.ws.length+n) cap5)) g5 54 cur5:=HK5.out.far hgg _
  have hp6:Kp (fun k=>k=g ∨ (Value.slice A s.ws.length c).ownBlock=some k) w (w1.setCell ⟨g,2,none⟩ (.slice (some ⟨g5,0,none⟩) (s.ws.length+n) cap5)):=((Kp.of_below (HB3.out.trans (HB5.out.mono HB3.out.size))).trans (Kp.setCell (S:=fun k=>k=g) w1 ⟨g,2,none⟩ _ rfl) fun k _ h=>.inl h)
  have hsz6:w.heap.size≤(w1.setCell ⟨g,2,none⟩ (.slice (some ⟨g5,0,none⟩) (s.ws.length+n) cap5)).heap.size:=hp6.size
  obtain⟨w6,hw6e⟩:∃ w6,w1.setCell ⟨g,2,none⟩ (.slice (some ⟨g5,0,none⟩) (s.ws.length+n) cap5)=w6:=⟨_,rfl⟩
  rw[hw6e] at hb6 hk6 hp6 hsz6 ⊢
  have k0:w6.cell? ⟨g,0,none⟩=some (.int .i64 s.base):=hb6.cell 0
  have k2:w6.cell? ⟨g,2,none⟩=some (.slice (some ⟨g5,0,none⟩) (s.ws.length+n) cap5):=hb6.cell 2
  have HB6:=lh hb6
  have HK6:=lh hk6
  have HP6:=lh hp6
  have hw8:IntKind.i64.wrap (s.base+(s.ws.length:Int) - s.base)=(s.ws.length:Int):=by
   rw[show s.base+(s.ws.length:Int) - s.base=(s.ws.length:Int) by omega];exact IntWalk.i64_in _ (by omega)
  have hw9:s.base+(s.ws.length:Int) - s.base=(s.ws.length:Int):=by omega
  have j0:(0:Int)≤(s.ws.length:Int):=by omega
  have j1:(s.ws.length:Int)≤((s.ws.length+n:Nat):Int):=by omega
  have j2:(s.ws.length:Int) < (cap5:Int):=by omega
  have j3:s.ws.length < cap5:=by omega
  have j4:((s.ws.length+n:Nat):Int)≤(cap5:Int):=by omega
  clear hw6e c0 f0 hb6 hk6 hp6
  go_wp2_with fail
  go_quiet (fail)
  have hcs:∀ j,j < n→((w6.drewN nq).cell? ⟨g5,s.ws.length+j,none⟩).isSome=true:=fun j hj=>by
   have:(w6.drewN nq).cell? ⟨g5,s.ws.length+j,none⟩=cur5[s.ws.length+j]?:=HK6.out.cell _
   rw[this]
   simp
   omega
  have hfs:∀ j,j < n→(w6.drewN nq).frozen? ⟨g5,s.ws.length+j,none⟩=false:=fun j hj=>HK6.out.free _
  have HCS:=lh hcs
  have HFS:=lh hfs
  clear hcs hfs
  go_upto_region 13 with (refine wpList_clear rfl (.tmp 68) 31 rfl Tryz.underlying31 zero_word rfl rfl (b:=g5) (off:=s.ws.length) (n:=n) (c:=cap5 - s.ws.length) rfl (by omega) HCS.out HFS.out ?_)
  obtain⟨cur7,hk7,hl7⟩:=Bk.setCells (List.replicate n (.int .u64 0)) s.ws.length (w6.drewN nq) cur5 HK6.out (by simp;omega)
  have hb7:Bk ((w6.drewN nq).setCells g5 s.ws.length (List.replicate n (.int .u64 0))) g 123 #[.int .i64 s.base,.int .i64 s.limit,.slice (some ⟨g5,0,none⟩) (s.ws.length+n) cap5] :=(show Bk (w6.drewN nq) g 123 #[.int .i64 s.base,.int .i64 s.limit,.slice (some ⟨g5,0,none⟩) (s.ws.length+n) cap5] from HB6.out).kp (Kp.setCells (S:=fun k=>k=g5) rfl _ _ _) (fun e=>hgg e.symm)
  have hp7:Kp (fun k=>k=g ∨ (Value.slice A s.ws.length c).ownBlock=some k) w ((w6.drewN nq).setCells g5 s.ws.length (List.replicate n (.int .u64 0))):=by
   have h1:Kp (fun k=>k=g ∨ (Value.slice A s.ws.length c).ownBlock=some k) w (w6.drewN nq):=⟨HP6.out.os,HP6.out.tape,HP6.out.output,HP6.out.size,HP6.out.block⟩
   refine h1.trans (Kp.setCells (S:=fun k=>k=g5) rfl _ _ _) fun k hk e=>?_
   subst e
   rcases hv5 with h | h
   ·exact .inr h
   ·have:=HB3.out.size;omega
  have hlt7:g5 < ((w6.drewN nq).setCells g5 s.ws.length (List.replicate n (.int .u64 0))).heap.size:=hk7.lt
  obtain⟨w7,hw7e⟩:∃ w7,(w6.drewN nq).setCells g5 s.ws.length (List.replicate n (.int .u64 0))=w7:=⟨_,rfl⟩
  rw[hw7e] at hk7 hb7 hp7 hlt7 ⊢
  have hl7':cur7.size=cap5:=by
   have:=congrArg List.length hl7
   simp at this
   omega
  obtain⟨y0,m0⟩:∃ y,w7.cell? ⟨g5,s.ws.length,none⟩=some y:=⟨cur7[s.ws.length]'(by omega),by rw[hk7.cell];simp⟩
  obtain⟨y1,m1⟩:∃ y,w7.cell? ⟨g5,s.ws.length+1,none⟩=some y:=⟨cur7[s.ws.length+1]'(by omega),by rw[hk7.cell];simp⟩
  have p0:w7.frozen? ⟨g5,s.ws.length,none⟩=false:=hk7.free _
  have p1:w7.frozen? ⟨g5,s.ws.length+1,none⟩=false:=hk7.free _
  have n0:(0:Int) < (n:Int):=by omega
  have n1:(1:Int) < (n:Int):=by omega
  have n2:0 < n:=by omega
  have n3:1 < n:=by omega
  have HK7:=lh hk7
  have HB7:=lh hb7
  have HP7:=lh hp7
  have HL7:=lh hl7
  have HS7:=lh hl7'
  clear hw7e hk7 hb7 hp7 hl7 hl7' k0 k2
  go_wp2_with fail
  go_ret2
  have hn':wH hd=(n:Int):=HN.out
  have hal:s.alloc hd i=(0,{ s with ws:=s.ws++([eH hd,eI i]++List.replicate (n - 2) 0) },s.top):=by
   unfold Spc.alloc
   rw[if_neg (by rw[HV.out,HI.out];simp),if_neg (by unfold Spc.top;omega),hn']
   rw[show((n:Int) - 2).toNat=n - 2 by omega]
  have hlen:(s.ws++([eH hd,eI i]++List.replicate (n - 2) 0)).length=s.ws.length+n:=by simp;omega
  refine⟨by unfold alcV;rw[hal];rfl,⟨.slice (some ⟨g5,0,none⟩) (s.ws.length+n) cap5,?_,fun k hk=>?_⟩,?_⟩
  ·rw[hal]
   refine⟨(HB7.out.far (p:=⟨g5,s.ws.length,none⟩) (fun e=>hgg e.symm) _).far (p:=⟨g5,s.ws.length+1,none⟩) (fun e=>hgg e.symm) _,?_,H3.out.ge,fun x hx=>?_,H3.out.b0,by simp only[hlen];omega,H3.out.l0⟩
   ·simp only[hlen]
    refine⟨by simp[wds];omega,.inr ⟨g5,cap5,_,rfl,hg5,(HK7.out.set s.ws.length _).set (s.ws.length+1) _,hl5,HM5.out,by simp[HS7.out],?_⟩⟩
    have ht:=HT5.out
    have hw:(wds s.ws).length=s.ws.length:=wds_length _
    rw[Nat.mul_one,Array.toList_setIfInBounds,Array.toList_setIfInBounds,HL7.out,ht]
    obtain⟨m,rfl⟩:∃ m,n=m+2:=⟨n - 2,by omega⟩
    simp[List.replicate_succ,wds,List.set_append]
    have e:∀ D:List Value,List.map (Value.int IntKind.u64) s.ws++Value.int IntKind.u64 (eH hd)::Value.int IntKind.u64 (eI i)::(List.replicate m (Value.int IntKind.u64 0)++D)=(List.map (Value.int IntKind.u64) s.ws++Value.int IntKind.u64 (eH hd)::Value.int IntKind.u64 (eI i)::List.replicate m (Value.int IntKind.u64 0))++D:=fun D=>by simp
    rw[e,List.take_left' (by simp)]
   ·rcases List.mem_append.1 hx with h | h
    ·exact H3.out.u x h
    ·rcases List.mem_append.1 h with h | h
     ·rcases List.mem_cons.1 h with h | h
      ·rw[h];exact eH_u64 HV.out
      ·rw[List.mem_singleton.1 h];exact eI_u64 HI.out
     ·rw[List.eq_of_mem_replicate h];exact⟨by decide,by decide⟩
  ·cases hk
   exact hv5.imp id (Nat.le_trans HB3.out.size)
  ·refine(HP7.out.trans (Kp.setCell (S:=fun k=>k=g5) w7 ⟨g5,s.ws.length,none⟩ (.int .u64 (eH hd)) rfl) fun k hk e=>?_).trans (Kp.setCell (S:=fun k=>k=g5) _ ⟨g5,s.ws.length+1,none⟩ (.int .u64 (eI i)) rfl) fun k hk e=>?_
   all_goals
    subst e
    rcases hv5 with h | h
    ·exact .inr h
    ·have:=HB3.out.size;omega
theorem SAlloc_any (h:SpR w B g s V) (hB:B≤w.heap.size) (hd:Hdr) (i:Id):Calls Tryz.prog 44 #[.pointer (some ⟨g,0,none⟩),hd.val,i.val] w (AlcP w B g s V hd i):=by
 cases hv:vH hd with
 | false=>exact SAlloc_badH h hd i hv
 | true =>
  cases hi:vI i with
  | false=>exact SAlloc_badI h hd i hv hi
  | true =>
   by_cases hl:s.limit - s.top < wH hd
   ·exact SAlloc_big h hd i hv hi hl
   ·exact SAlloc_ok h hd i hv hi (by omega) hB
end
end
section
open Go.RowKit Go.Maps
def insB (f:Int→Bool) (n:Int):Int→Bool:=fun k=>if k=n then true else f k
theorem plainElem_bool_inv {P:Program} {e:TypeId} (he:P.underlying e=some .bool) {v:Value} {z:DataW Unit × List MemPlace} (h:plainElem P e v=some z):∃ x,v=.bool x∧z=(.lit (.bool x),[]):=by
 unfold plainElem at h
 rw[he] at h
 cases v <;> simp at h
 subst h
 exact⟨_,rfl,rfl⟩
section
variable {P:Program} {k e t:TypeId} {w w':World} {b n:Nat} {f:Int→Bool}
/-- Block b is a map of at most n entries whose keys are those of f, each of them with the value true. -/
def MapT (P:Program) (k e:TypeId) (w:World) (b n:Nat) (f:Int→Bool):Prop :=
 ∃ D:DataW Unit,w.ownsMap P k (plainElem P e) b n D∧∀ x,(Lit.int .i64 x).wf=true→Maps.has D (.int .i64 x)=f x∧D.atKey (.int .i64 x) (.lit (.bool false))=.lit (.bool (f x))
theorem MapT.made (P:Program) (k e:TypeId) (w:World):MapT P k e (w.alloc (.map #[] 0)) w.heap.size 0 (fun _=>false) :=
 ⟨_,World.ownsMap_made _ _ _ _,fun x _=>⟨rfl,rfl⟩⟩
theorem MapT.mono (h:MapT P k e w b n f) {m:Nat} (hm:n≤m):MapT P k e w b m f:=let ⟨D,h1,h2⟩:=h;⟨D,h1.mono hm,h2⟩
theorem MapT.lt (h:MapT P k e w b n f):b < w.heap.size:=let ⟨_,h1,_⟩:=h;h1.lt
theorem MapT.block (h:MapT P k e w b n f) (hb:w'.heap[b]?=w.heap[b]?):MapT P k e w' b n f:=by
 obtain⟨D,⟨es,clock,h1,h2⟩,h3⟩:=h
 exact⟨D,⟨es,clock,hb.trans h1,h2⟩,h3⟩
theorem MapT.congr {g:Int→Bool} (h:MapT P k e w b n f) (hg:∀ x,(Lit.int .i64 x).wf=true→f x=g x):MapT P k e w b n g :=
 let ⟨D,h1,h2⟩:=h;⟨D,h1,fun x hx=>by rw[← hg x hx];exact h2 x hx⟩
variable (hk:P.underlying k=some (.int .i64)) (he:P.underlying e=some .bool) (ht:P.underlying t=some (.map k e)) (hz:∀ w,(zeroValue e).run P w=.ok (.bool false) w)
include hk he ht
theorem MapT.put (h:MapT P k e w b n f) (hn:n < maxLen) {x:Int} (hx:(Lit.int .i64 x).wf=true) :
  ∃ w',(Instr.mapUpdate t (.map (some b)) (.int .i64 x) (.bool true)).run P w=.ok () w'∧MapT P k e w' b (n+1) (insB f x)∧w.grownBy w' (some b):=by
 obtain⟨D,h1,h2⟩:=h
 obtain⟨w',r1,r2,r3⟩:=h1.update (int_keyed hk) ht hn (keyOf_int_mk hk hx) (plainElem_bool he true)
 refine⟨w',r1,⟨_,r2,fun z hz=>?_⟩,r3⟩
 have hm:=h1.isMap
 unfold insB
 by_cases hzx:z=x
 ·subst hzx
  rw[if_pos rfl]
  have hkl:WideAt.IsKeyLit (.int .i64 z):=trivial
  exact⟨has_put_same hm hkl _,atKey_put_same hm hkl _ _⟩
 ·rw[if_neg hzx]
  have hne:(Lit.int .i64 z)≠Lit.int .i64 x:=by intro hh;injection hh with _ hh;exact hzx hh
  rw[has_put_other hne,atKey_put_other hne]
  exact h2 z hz
theorem wpList_set_put {ops:Array Oper} {rest:List Oper} {o:Oper} {a:Act} {Q:Exit→Act→World→Prop}
  (hg:o.guard=none) {m x v:Operand} (hop:o.op=Op.mapUpdate t m x v) (h:MapT P k e w b n f) (hn:n < maxLen) {i:Int}
  (hm:a.eval m=.map (some b)) (hi:a.eval x=.int .i64 i) (hj:a.eval v=.bool true) (wi:(Lit.int .i64 i).wf=true)
  (hK:∀ w',MapT P k e w' b (n+1) (insB f i)→w.grownBy w' (some b)→wpList P ops Q rest (a.put o.dst undef) w') :
  wpList P ops Q (o::rest) a w:=by
 obtain⟨w',r1,r2,r3⟩:=h.put hk he ht hn wi
 refine wpList_plain hg fun K' hK'=>?_
 unfold Oper.wp execOp
 simp only[hop,hm,hi,hj,Sem.run_bind,r1,Result.andThen_ok]
 exact hK' _ _ (hK w' r2 r3)
include hz
theorem MapT.look (h:MapT P k e w b n f) {x:Int} (hx:(Lit.int .i64 x).wf=true):(Instr.lookup t (.map (some b)) (.int .i64 x) false).run P w=.ok (.bool (f x)) w:=by
 obtain⟨D,h1,h2⟩:=h
 obtain⟨v,ps,r1,r2⟩:=h1.lookup (int_keyed hk) ht (hz w) (plainElem_bool he false) (keyOf_int_mk hk hx)
 obtain⟨c,rfl,hc⟩:=plainElem_bool_inv he r2
 rw[(h2 x hx).2] at hc
 simp only[Prod.mk.injEq] at hc
 have:=hc.1
 injection this with this
 injection this with this
 rw[r1,this]
end
end
section
open Go.RowKit Go.Sort
theorem zero_bool (w:World):(zeroValue 4).run Tryz.prog w=.ok (.bool false) w:=by kernel_rfl
/-- the card table behind the pointer to block g, its map in block b -/
structure CR (w:World) (B g b n:Nat) (cs:List Int):Prop where
 hd:Bk w g 129 #[.map (some b)]
 mp:MapT Tryz.prog 3 4 w b n (fun x=>cs.contains x)
 ge:B≤g
 gm:B≤b
theorem CR.below {w w':World} {B g b n:Nat} {cs:List Int} (h:CR w B g b n cs) (hb:Below w.heap.size w w'):CR w' B g b n cs :=
 ⟨h.hd.below hb h.hd.lt,h.mp.block (hb.block b h.mp.lt),h.ge,h.gm⟩
theorem CR.kp {S:Nat→Prop} {w w':World} {B g b n:Nat} {cs:List Int} (h:CR w B g b n cs) (hb:Kp S w w') (h1:¬ S g) (h2:¬ S b):CR w' B g b n cs :=
 ⟨h.hd.kp hb h1,h.mp.block (hb.block b h.mp.lt h2),h.ge,h.gm⟩
theorem cardIns_contains (c x:Int):∀ l:List Int,(cardIns c l).contains x=(if x=c then true else l.contains x)
 | []=>by
  unfold cardIns
  by_cases h:x=c <;> simp[h]
 | y::l=>by
  unfold cardIns
  split
  ·have ih:=cardIns_contains c x l
   simp only[List.contains_cons,ih]
   by_cases h:x=c <;> simp[h]
  ·simp only[List.contains_cons]
   by_cases h:x=c <;> simp[h]
theorem cardMark_contains (cs:List Int) (a:Int) (ho:oldB a=true) (x:Int):((cardMark cs a).2).contains x=(if x=a / 16 then true else cs.contains x):=by
 unfold cardMark
 rw[if_neg (by rw[ho];simp)]
 unfold cardIn
 rw[ho,Bool.true_and]
 split
 ·rename_i h
  by_cases hx:x=a / 16
  ·rw[if_pos hx,hx];exact h
  ·rw[if_neg hx]
 ·exact cardIns_contains _ _ _
theorem oldB_iff (a:Int):oldB a=true↔(0≤a∧a < 16777216):=by unfold oldB;exact decide_eq_true_iff
section
variable {w:World} {B g b n:Nat} {cs:List Int}
theorem Marked_any (h:CR w B g b n cs) (a:Int):Calls Tryz.prog 78 #[.pointer (some ⟨g,0,none⟩),.int .i64 a] w fun e w'=>e=.returned (.bool (cardIn cs a))∧w=w':=by
 have cO:=fun w=>old_any a w
 cases ho:oldB a with
 | false =>
  have hk:=lh (show cardIn cs a=false by unfold cardIn;rw[ho];rfl)
  simp only[ho] at cO
  clear ho h
  go_enter Tryz.func78,Tryz.ntmps78
  go_wp2_with fail
  refine(cO _).mono ?_
  rintro e w1 ⟨rfl,rfl⟩
  go_wp2_with fail
  go_ret
  exact⟨ret_bool hk.out.symm,rfl⟩
 | true =>
  have hk:=lh (show cardIn cs a=cs.contains (a / 16) by unfold cardIn;rw[ho];rfl)
  obtain⟨a0,a1⟩:=(oldB_iff a).1 ho
  simp only[ho] at cO
  have c0:w.cell? ⟨g,0,none⟩=some (.map (some b)):=h.hd.cell 0
  have hl:=h.mp.look Tryz.underlying3 Tryz.underlying4 Tryz.underlying127 zero_bool (x:=a / 16) (WalkArith.wf_i64 (by omega))
  clear ho h
  obtain⟨bb,hbb⟩:∃ bb,bb=cs.contains (a / 16):=⟨_,rfl⟩
  simp only[← hbb] at hl
  have HBB:=lh hbb
  clear hbb
  go_enter Tryz.func78,Tryz.ntmps78
  go_wp2_with fail
  refine(cO _).mono ?_
  rintro e w1 ⟨rfl,rfl⟩
  go_wp2_with fail
  go_ret
  exact⟨ret_bool (HBB.out.trans hk.out.symm),rfl⟩
def MarkP (w:World) (B g b n:Nat) (cs:List Int) (a:Int) (e:Ending) (w':World):Prop:=e=.returned (.int .i64 (cardMark cs a).1)∧CR w' B g b (n+1) (cardMark cs a).2∧Kp (fun k=>k=b) w w'
theorem Mark_any (h:CR w B g b n cs) (hn:n < 1000000) (a:Int):Calls Tryz.prog 46 #[.pointer (some ⟨g,0,none⟩),.int .i64 a] w (MarkP w B g b n cs a):=by
 have cO:=fun w=>old_any a w
 cases ho:oldB a with
 | false =>
  have hk:=lh (show cardMark cs a=(2,cs) by unfold cardMark;rw[if_pos ho])
  simp only[ho] at cO
  have H:=lh h
  clear ho h
  go_enter Tryz.func46,Tryz.ntmps46
  go_wp2_with fail
  refine(cO _).mono ?_
  rintro e w1 ⟨rfl,rfl⟩
  go_wp2_with fail
  go_ret
  unfold MarkP
  rw[hk.out]
  exact⟨rfl,⟨H.out.hd,H.out.mp.mono (by omega),H.out.ge,H.out.gm⟩,Kp.refl _ _⟩
 | true =>
  have hk:Hid ((cardMark cs a).1=0):=lh (by unfold cardMark;rw[if_neg (by rw[ho];simp)];split <;> rfl)
  have hct:=lh (cardMark_contains cs a ho)
  obtain⟨a0,a1⟩:=(oldB_iff a).1 ho
  simp only[ho] at cO
  have c0:w.cell? ⟨g,0,none⟩=some (.map (some b)):=h.hd.cell 0
  have H:=lh h
  have HW:Hid ((Lit.int .i64 (a / 16)).wf=true):=lh (WalkArith.wf_i64 (by omega))
  clear ho h
  go_enter Tryz.func46,Tryz.ntmps46
  go_wp2_with fail
  refine(cO _).mono ?_
  rintro e w1 ⟨rfl,rfl⟩
  go_wp2_with (refine wpList_set_put Tryz.underlying3 Tryz.underlying4 Tryz.underlying127 rfl (m:=.tmp 11) (x:=.tmp 13) (v:=.const (.bool true)) rfl H.out.mp (by unfold maxLen;omega) rfl rfl rfl HW.out ?_;intro w3 hm3 hg3;have HM3:=lh hm3;have HG3:=lh hg3;clear hm3 hg3)
  go_ret
  refine⟨by rw[hk.out];rfl,⟨?_,?_,H.out.ge,H.out.gm⟩,Kp.of_grown HG3.out fun k hk=>(Option.some.inj hk).symm⟩
  ·refine H.out.hd.grown HG3.out fun e=>?_
   cases e
   obtain⟨D,⟨es,clock,h1,_⟩,_⟩:=H.out.mp
   have h2:=H.out.hd
   unfold Bk at h2
   rw[h1] at h2
   cases h2
  ·exact HM3.out.congr fun x _=>(hct.out x).symm
end
end
end Go.Proofs.YtaijmgkjbbiboaaGreat
