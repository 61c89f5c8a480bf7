/- Parts of the proof: Space, Space2, Grow. -/
import Derived.BigQuiet
import Derived.Deep.QuietTactic
import Derived.Deep.RegionHeld3
import Derived.Lib.AppendZerosOnto
import Derived.Lib.SliceRun
import Derived.Lib.Walk
import Derived.StillTailTactics
import Derived.Test.YtaijmgkjbbiboaaGreatPcA
import Derived.Test.YtaijmgkjbbiboaaGreatPc0
import Derived.Test.YtaijmgkjbbiboaaGreatPc1
import Derived.Test.YtaijmgkjbbiboaaGreatPc2
set_option linter.unusedVariables false
set_option linter.unusedSimpArgs false
set_option linter.unusedSectionVars false
set_option maxRecDepth 100000
namespace Go.Proofs.YtaijmgkjbbiboaaGreat
section
open Go.RowKit Go.Sort
def wds (l:List Int):List Value:=l.map (Value.int .u64)
theorem wds_length (l:List Int):(wds l).length=l.length:=by simp[wds]
theorem wds_get {l:List Int} {i:Nat} {x:Int} (h:l[i]?=some x):(wds l)[i]?=some (.int .u64 x):=by simp[wds,h]
/-- the space s lies behind the pointer to block g, its words in a row of blocks from B on -/
structure SpR (w:World) (B g:Nat) (s:Spc) (V:Value):Prop where
 hd:Bk w g 123 #[.int .i64 s.base,.int .i64 s.limit,V]
 own:w.ownsRow B 54 1 V s.ws.length (wds s.ws)
 ge:B≤g
 u:∀ x∈s.ws,U64 x
 b0:0≤s.base
 lim:s.base+s.ws.length≤s.limit
 l0:s.limit≤4294967296
theorem SpR.below {w w':World} {B g:Nat} {s:Spc} {V:Value} (h:SpR w B g s V) (hb:Below w.heap.size w w'):SpR w' B g s V :=
 ⟨h.hd.below hb h.hd.lt,own_local h.own fun k hk=>hb.block k (h.own.lt k hk).2,h.ge,h.u,h.b0,h.lim,h.l0⟩
theorem SpR.ok {w:World} {B g:Nat} {s:Spc} {V:Value} (h:SpR w B g s V):s.Ok:=⟨h.u,h.b0,h.lim,h.l0⟩
section
variable {w:World} {B g:Nat} {s:Spc} {V:Value}
theorem Top_any (h:SpR w B g s V):Calls Tryz.prog 30 #[.pointer (some ⟨g,0,none⟩)] w fun e w'=>e=.returned (.int .i64 s.top)∧Below w.heap.size w w':=by
 obtain⟨A,c,rfl,hle⟩:=own_shape h.own
 have c0:w.cell? ⟨g,0,none⟩=some (.int .i64 s.base):=h.hd.cell 0
 have c2:w.cell? ⟨g,2,none⟩=some (.slice A s.ws.length c):=h.hd.cell 2
 have b0:=h.b0
 have b1:=h.lim
 have b2:=h.l0
 have hw:IntKind.i64.wrap (s.base+(s.ws.length:Int))=s.base+(s.ws.length:Int):=IntWalk.i64_in _ (by omega)
 clear h
 unfold Spc.top
 go_enter Tryz.func30,Tryz.ntmps30
 go_wp2_with fail
 go_quiet (fail)
 go_wp2_with fail
 go_ret
 exact⟨rfl,below_drewN (Below.refl _ _) _⟩
theorem Contains_any (h:SpR w B g s V) (a:Int):Calls Tryz.prog 73 #[.pointer (some ⟨g,0,none⟩),.int .i64 a] w fun e w'=>e=.returned (.bool (s.has a))∧Below w.heap.size w w':=by
 have c0:w.cell? ⟨g,0,none⟩=some (.int .i64 s.base):=h.hd.cell 0
 have cT:=Top_any h
 unfold Spc.top at cT
 clear h
 by_cases h0:s.base≤a
 ·have hk:Hid (s.has a=decide (a < s.base+(s.ws.length:Int))):=lh (by unfold Spc.has;simp[h0])
  go_enter Tryz.func73,Tryz.ntmps73
  go_wp2_with fail
  refine cT.mono ?_
  rintro e w1 ⟨rfl,hb⟩
  have HB:=lh hb
  clear hb
  go_wp2_with fail
  go_ret
  exact⟨ret_bool hk.out.symm,HB.out⟩
 ·have hk:Hid (s.has a=false):=lh (decide_eq_false (by omega))
  have h1:a < s.base:=by omega
  go_enter Tryz.func73,Tryz.ntmps73
  go_wp2_with fail
  go_ret
  exact⟨ret_bool hk.out.symm,Below.refl _ _⟩
def ldV (s:Spc) (a:Int):Value:=match s.at_ a with | some x=>.tuple #[.int .u64 x,.int .i64 0] | none=>.tuple #[.int .u64 0,.int .i64 2]
set_option maxHeartbeats 1000000 in
theorem SLoad_any (h:SpR w B g s V) (a:Int):Calls Tryz.prog 70 #[.pointer (some ⟨g,0,none⟩),.int .i64 a] w fun e w'=>e=.returned (ldV s a)∧Below w.heap.size w w':=by
 have cC:=Contains_any h a
 unfold ldV
 cases hh:s.has a with
 | false =>
  rw[Spc.at_none hh]
  simp only[hh] at cC ⊢
  clear hh h
  go_enter Tryz.func70,Tryz.ntmps70
  go_wp2_with fail
  refine cC.mono ?_
  rintro e w1 ⟨rfl,hb⟩
  have HB:=lh hb
  clear hb
  go_wp2_with fail
  go_ret2
  exact⟨rfl,HB.out⟩
 | true =>
  obtain⟨i,hi,hil,x,hx,hat⟩:=Spc.at_some hh
  rw[hat]
  simp only[hh] at cC ⊢
  obtain⟨A,c,rfl,hle⟩:=own_shape h.own
  obtain⟨b,o,rfl,hbl,hcells⟩:=(own_sl h.own).get hil
  have b0:=h.b0
  have b1:=h.lim
  have b2:=h.l0
  have H:=lh h
  have HC:=lh (hcells i _ (wds_get hx))
  obtain rfl:a=s.base+i:=by omega
  have hw:IntKind.i64.wrap (s.base+(i:Int) - s.base)=(i:Int):=by
   rw[show s.base+(i:Int) - s.base=i by omega];exact IntWalk.i64_in _ (by omega)
  have hw2:s.base+(i:Int) - s.base=(i:Int):=by omega
  have hw3:IntKind.i64.wrap (i:Int)=(i:Int):=IntWalk.i64_in _ (by omega)
  have i0:(0:Int)≤(i:Int):=by omega
  have i1:(i:Int) < (s.ws.length:Int):=by omega
  have i2:(s.ws.length:Int)≤(c:Int):=by omega
  clear h hh hat hcells hi hx
  go_enter Tryz.func70,Tryz.ntmps70
  go_wp2_with fail
  refine cC.mono ?_
  rintro e w1 ⟨rfl,hb⟩
  have HB:=lh hb
  have h1:=H.out.below hb
  have c0:w1.cell? ⟨g,0,none⟩=some (.int .i64 s.base):=h1.hd.cell 0
  have c2:w1.cell? ⟨g,2,none⟩=some (.slice (some ⟨b,o,none⟩) s.ws.length c):=h1.hd.cell 2
  have cx:w1.cell? ⟨b,o+i,none⟩=some (.int .u64 x):=((bcell hb).1 _ _ hbl).trans HC.out
  clear hb h1
  go_wp2_with fail
  go_quiet (fail)
  go_wp2_with fail
  go_ret2
  exact⟨rfl,below_drewN HB.out _⟩
end
end
section
open Go.RowKit Go.Sort
/-- w' is w but for the blocks of S and new ones -/
structure Kp (S:Nat→Prop) (w w':World):Prop where
 os:w'.os=w.os
 tape:w'.tape=w.tape
 output:w'.output=w.output
 size:w.heap.size≤w'.heap.size
 block:∀ k,k < w.heap.size→¬ S k→w'.heap[k]?=w.heap[k]?
section
variable {S T:Nat→Prop} {w w1 w2:World}
theorem Kp.refl (S:Nat→Prop) (w:World):Kp S w w:=⟨rfl,rfl,rfl,Nat.le_refl _,fun _ _ _=>rfl⟩
theorem Kp.of_below (h:Below w.heap.size w w1):Kp S w w1:=⟨h.os,h.tape,h.output,h.size,fun k hk _=>h.block k hk⟩
theorem Kp.of_grown {row:Option Nat} (h:w.grownBy w1 row) (hr:∀ k,row=some k→S k):Kp S w w1:=⟨h.os,h.tape,h.output,h.size,fun k hk hn=>h.block k hk fun e=>hn (hr k e.symm)⟩
theorem Kp.mono (h:Kp S w w1) (hs:∀ k,k < w.heap.size→S k→T k):Kp T w w1:=⟨h.os,h.tape,h.output,h.size,fun k hk hn=>h.block k hk fun hS=>hn (hs k hk hS)⟩
theorem Kp.trans (h:Kp S w w1) (h':Kp T w1 w2) (hs:∀ k,k < w.heap.size→T k→S k):Kp S w w2 :=
 ⟨h'.os.trans h.os,h'.tape.trans h.tape,h'.output.trans h.output,Nat.le_trans h.size h'.size,fun k hk hn=>(h'.block k (Nat.lt_of_lt_of_le hk h.size) fun hT=>hn (hs k hk hT)).trans (h.block k hk hn)⟩
theorem Kp.toBelow {B:Nat} {w0:World} (h:Kp S w w1) (hb:Below B w0 w) (hB:B≤w.heap.size) (hS:∀ k,S k→B≤k):Below B w0 w1 :=
 ⟨h.os.trans hb.os,h.tape.trans hb.tape,h.output.trans hb.output,Nat.le_trans hb.size h.size,fun k hk=>(h.block k (Nat.lt_of_lt_of_le hk hB) fun hk'=>by have:=hS k hk';omega).trans (hb.block k hk)⟩
theorem Kp.drew (h:Kp S w w1):Kp S w w1.drew:=⟨h.os,h.tape,h.output,h.size,h.block⟩
theorem Kp.cell {a:Addr} {v:Value} (h:Kp S w w1) (hc:w.cell? a=some v) (hn:¬ S a.block):w1.cell? a=some v:=by
 rw[World.cell?_of_block (h.block a.block (cell_lt hc) hn)];exact hc
theorem Bk.kp {g:Nat} {t:TypeId} {cs:Array Value} (h:Bk w g t cs) (hk:Kp S w w1) (hn:¬ S g):Bk w1 g t cs:=(hk.block g h.lt hn).trans h
theorem Kp.setCell (w:World) (a:Addr) (v:Value) (h:S a.block):Kp S w (w.setCell a v):=⟨rfl,rfl,rfl,by simp[World.setCell],fun k _ hn=>Below.heap_setCell w a v k (fun e=>hn (e ▸ h))⟩
end
theorem ownSetAt {w:World} {base:Nat} {e:TypeId} {n g o c i:Nat} {xs:List Value} (h:w.ownsRow base e 1 (.slice (some ⟨g,o,none⟩) n c) n xs) (hi:i < n) (v:Value) :
  (w.setCell ⟨g,o+i,none⟩ v).ownsRow base e 1 (.slice (some ⟨g,o,none⟩) n c) n (xs.set i v):=by
 obtain⟨h1,h2 | ⟨g',cap,cur,hv,h3,h4,h5,h6,h7,h8⟩⟩:=h
 ·cases h2.1
 ·cases hv
  refine⟨by simpa using h1,.inr ⟨g,c,cur.setIfInBounds i v,rfl,h3,?_,h5,h6,by simpa using h7,?_⟩⟩
  ·have:=(show Bk w g e cur from h4).set i v
   rw[Nat.zero_add]
   exact this
  ·rw[Array.toList_setIfInBounds,← h8]
   exact List.take_set
theorem SpR.put {w w':World} {B g:Nat} {s:Spc} {V:Value} (h:SpR w B g s V) {x:Int} (hx:U64 x) {i:Nat} (hi:i < s.ws.length)
  (hhd:Bk w' g 123 #[.int .i64 s.base,.int .i64 s.limit,V]) (hown:w'.ownsRow B 54 1 V s.ws.length ((wds s.ws).set i (.int .u64 x))):SpR w' B g { s with ws:=s.ws.set i x } V:=by
 refine⟨hhd,?_,h.ge,fun y hy=>?_,h.b0,by simpa using h.lim,h.l0⟩
 ·have:wds (s.ws.set i x)=(wds s.ws).set i (.int .u64 x):=by simp[wds,List.map_set]
  simp only[List.length_set]
  rw[this]
  exact hown
 ·rcases List.mem_or_eq_of_mem_set hy with h1 | h1
  ·exact h.u y h1
  ·rw[h1];exact hx
theorem SpR.hd_ne {w:World} {B g:Nat} {s:Spc} {V:Value} (h:SpR w B g s V):V.ownBlock≠some g:=fun he=>by
 obtain⟨_,⟨rfl,_⟩ | ⟨g',cap,cur,rfl,_,h4,_⟩⟩:=h.own
 ·cases he
 ·injection he with he
  subst he
  have h5:=h.hd
  unfold Bk at h5
  rw[h4] at h5
  cases h5
section
variable {w:World} {B g:Nat} {s:Spc} {V:Value}
set_option maxHeartbeats 1000000 in
theorem SStore_any (h:SpR w B g s V) (a:Int) {x:Int} (hx:U64 x):Calls Tryz.prog 95 #[.pointer (some ⟨g,0,none⟩),.int .i64 a,.int .u64 x] w fun e w'=>e=.returned (.int .i64 (if s.has a=true then 0 else 2))∧SpR w' B g (s.put a x) V∧Kp (fun k=>V.ownBlock=some k) w w':=by
 have cC:=Contains_any h a
 unfold Spc.put
 cases hh:s.has a with
 | false =>
  simp only[hh,Bool.false_eq_true,if_false] at cC ⊢
  have H:=lh h
  clear hh h
  go_enter Tryz.func95,Tryz.ntmps95
  go_wp2_with fail
  refine cC.mono ?_
  rintro e w1 ⟨rfl,hb⟩
  have HB:=lh hb
  clear hb
  go_wp2_with fail
  go_ret
  exact⟨rfl,H.out.below HB.out,Kp.of_below HB.out⟩
 | true =>
  obtain⟨i,hi,hil,x0,hx0,hat⟩:=Spc.at_some hh
  simp only[hh,if_true] at cC ⊢
  have hne:=lh h.hd_ne
  obtain⟨A,c,rfl,hle⟩:=own_shape h.own
  obtain⟨b,cap,hV,_,hBb,hbl,hsl⟩:=ownSls h.own (by omega)
  cases hV
  have hcell:w.cell? ⟨b,0+i,none⟩=some (.int .u64 x0):=by
   obtain⟨b',o',hA,_,hc⟩:=hsl.get hil
   cases hA
   exact hc i _ (wds_get hx0)
  have b0:=h.b0
  have b1:=h.lim
  have b2:=h.l0
  have H:=lh h
  have HC:=lh hcell
  have HX:=lh hx
  obtain rfl:a=s.base+i:=by omega
  have hti:(s.base+(i:Int) - s.base).toNat=i:=by omega
  rw[hti]
  have hw:IntKind.i64.wrap (s.base+(i:Int) - s.base)=(i:Int):=by
   rw[show s.base+(i:Int) - s.base=i by omega];exact IntWalk.i64_in _ (by omega)
  have hw2:s.base+(i:Int) - s.base=(i:Int):=by omega
  have hw3:IntKind.i64.wrap (i:Int)=(i:Int):=IntWalk.i64_in _ (by omega)
  have i0:(0:Int)≤(i:Int):=by omega
  have i1:(i:Int) < (s.ws.length:Int):=by omega
  have i2:(s.ws.length:Int)≤(c:Int):=by omega
  clear h hh hat hcell hi hx0 hsl hx hti
  go_enter Tryz.func95,Tryz.ntmps95
  go_wp2_with fail
  refine cC.mono ?_
  rintro e w1 ⟨rfl,hb⟩
  have HB:=lh hb
  have h1:=H.out.below hb
  have H1:=lh h1
  have c0:w1.cell? ⟨g,0,none⟩=some (.int .i64 s.base):=h1.hd.cell 0
  have c2:w1.cell? ⟨g,2,none⟩=some (.slice (some ⟨b,0,none⟩) s.ws.length c):=h1.hd.cell 2
  have cx:w1.cell? ⟨b,0+i,none⟩=some (.int .u64 x0):=((bcell hb).1 _ _ hbl).trans HC.out
  have cx2:w1.cell? ⟨b,i,none⟩=some (.int .u64 x0):=by rw[Nat.zero_add] at cx;exact cx
  have cf:w1.frozen? ⟨b,i,none⟩=false:=by
   obtain⟨_,⟨h2,_⟩ | ⟨g',cap,cur,hv,_,h4,_⟩⟩:=h1.own
   ·cases h2
   ·cases hv
    exact(show Bk w1 b _ cur from h4).free i
  clear hb h1 cx
  go_wp2_with fail
  go_still_tail 12,(by kernel_rfl)
  change wpList _ _ _ _ _ w1.drew
  go_wp2_with fail
  go_ret
  have hne':b≠g:=fun e=>hne.out (by rw[e];rfl)
  refine⟨rfl,?_,?_⟩
  ·refine SpR.put (H1.out.below (below_drewN (Below.refl _ _) 1)) HX.out hil ?_ ?_
   ·exact Bk.far (H1.out.hd) (Ne.symm hne') _
   ·have:=ownSetAt (H1.out.own) hil (.int .u64 x)
    rw[Nat.zero_add] at this
    exact this
  ·exact((Kp.of_below HB.out).trans (Kp.setCell (S:=fun k=>(Value.slice (some ⟨b,0,none⟩) s.ws.length c).ownBlock=some k) w1 ⟨b,i,none⟩ (.int .u64 x) rfl) fun k _ hk=>hk).drew
end
end
section
open Go.RowKit Go.Sort
theorem i_word:(Tryz.prog.info? 54).map (fun i=>(i.zero,i.size,i.bytes))=some (some (.int .u64 0),1,8):=by kernel_rfl
def GrowP (w:World) (B l k:Nat) (V:Value) (xs:List Value) (e:Ending) (w':World):Prop :=
 ∃ g cap cur,e=.returned (.slice (some ⟨g,0,none⟩) l cap)∧Bk w' g 54 cur∧l+k≤cap∧cap≤maxLen∧cur.size=cap∧cur.toList.take l=xs∧B≤g∧(V.ownBlock=some g ∨ w.heap.size≤g)∧Below w.heap.size w w'
set_option maxHeartbeats 1000000 in
theorem Grow_room {w:World} {g l c k:Nat} (hlc:l≤c) (hc:c≤maxLen) (hk:k≤100) (hroom:l+k≤c) :
  Calls Tryz.prog 94 #[.slice (some ⟨g,0,none⟩) l c,.int .i64 k] w fun e w'=>e=.returned (.slice (some ⟨g,0,none⟩) l c)∧w=w':=by
 unfold maxLen at hc
 have h1:¬ ((k:Int) < 0):=by omega
 have h2:wrap64 ((c:Int) - (l:Int))=(c:Int) - (l:Int):=by unfold wrap64;omega
 have h3:wrap64 ((k:Int) - ((c:Int) - (l:Int)))=(k:Int) - ((c:Int) - (l:Int)):=by unfold wrap64;omega
 have h4:¬ ((k:Int) - ((c:Int) - (l:Int)) > 0):=by omega
 go_enter Tryz.func94,Tryz.ntmps94
 go_wp2
 go_ret
 exact⟨rfl,rfl⟩
set_option maxHeartbeats 4000000 in
theorem Grow_grow {w:World} (base:Option Addr) (l c k:Nat) (cs:List Value) (hlc:l≤c) (hk:k≤100) (hroom:c < l+k) (hbig:(l+k)*8≤140737488355328)
  (hcl:cs.length=c) (hnil:base=none→c=0) (hcs:∀ a,base=some a→∀ j v,cs[j]?=some v→w.cell? (a.add j)=some v) :
  Calls Tryz.prog 94 #[.slice base l c,.int .i64 k] w fun e w'=>∃ G,l+k≤G∧G≤maxLen ∧
   e=.returned (.slice (some ⟨w.heap.size,0,none⟩) l G) ∧
   w.drew.alloc (.cells (cs.toArray++Builtin.zeroCells #[.int .u64 0] (l+k - c)++Builtin.zeroCells #[.int .u64 0] (G - (l+k))) 54)=w':=by
 obtain⟨i0,hi0,hz0,hs0,hby⟩:=info_parts i_word
 have h1:¬ ((k:Int) < 0):=by omega
 have h2:wrap64 ((c:Int) - (l:Int))=(c:Int) - (l:Int):=by unfold wrap64;omega
 have h3:wrap64 ((k:Int) - ((c:Int) - (l:Int)))=(k:Int) - ((c:Int) - (l:Int)):=by unfold wrap64;omega
 have h4:(k:Int) - ((c:Int) - (l:Int)) > 0:=by omega
 have hck:c+(l+k - c)=l+k:=by omega
 have hold:(Builtin.firstCells i0.size c (.slice base c c)).run Tryz.prog w.drew=.ok cs.toArray w.drew:=by
  cases base with
  | none =>
   have h0:=hnil rfl
   subst h0
   have hc0:cs=[]:=List.length_eq_zero_iff.1 hcl
   rw[hc0]
   exact run_firstCells_none w.drew i0.size 0 0 0
  | some a=>exact run_firstCells_some w.drew i0.size c a c c cs (by rw[hs0];omega) (fun j v hj=>hcs a rfl j v hj)
 have hrz:∀ ty,(Builtin.append_ #[31,3] ty #[.slice base c c,.int .i64 ((k:Int) - ((c:Int) - (l:Int)))]).run Tryz.prog w =
   .ok (.slice (some ⟨w.heap.size,0,none⟩) (l+k) (grownCap w (l+k) c 54)) (w.drew.alloc (.cells (cs.toArray++Builtin.zeroCells #[.int .u64 0] (l+k - c)++Builtin.zeroCells #[.int .u64 0] (grownCap w (l+k) c 54 - (l+k))) 54)):=fun ty=>by
  have h:=Lib.run_append_grow_zeros w 31 3 ty 54 i0 (.int .u64 0) .i64 .i64 Tryz.underlying31 Tryz.underlying3 hi0 hz0 base c c cs hold (l+k - c) (by omega) (by omega) (by omega) (by omega)
   (by rw[hby];omega)
   (by rw[hck];exact growslice_fits hroom (by rw[hby];exact hbig))
  rw[hck] at h
  rw[show(k:Int) - ((c:Int) - (l:Int))=((l+k - c:Nat):Int) by omega]
  exact h
 have hGn:l+k≤grownCap w (l+k) c 54:=grownCap_ge w _ _ _
 have hG63:grownCap w (l+k) c 54≤maxLen:=grownCap_le_maxLen w (l+k) c 54 (by unfold maxLen;omega)
 obtain⟨G,hG⟩:∃ G,G=grownCap w (l+k) c 54:=⟨_,rfl⟩
 rw[← hG] at hrz hGn hG63
 have HG:=lh hG63
 unfold maxLen at hG63
 clear hold hck hG hcs hcl hi0 hz0 hs0 hby
 go_enter Tryz.func94,Tryz.ntmps94
 cases base with
 | none =>
  have h0:=hnil rfl
  subst h0
  obtain rfl:l=0:=by omega
  go_wp2_with (at_builtin;refine Lib.wpList_append_run _ rfl _ _ _ _ rfl _ _ rfl rfl _ _ (hrz _) ?_)
  all_goals (go_ret;exact⟨G,by omega,HG.out,rfl,rfl⟩)
 | some a =>
  obtain⟨ab,ao,asp⟩:=a
  go_wp2_with (at_builtin;refine Lib.wpList_append_run _ rfl _ _ _ _ rfl _ _ rfl rfl _ _ (hrz _) ?_)
  all_goals (go_ret;exact⟨G,hGn,HG.out,rfl,rfl⟩)
theorem Grow_any {w:World} {B l k:Nat} {V:Value} {xs:List Value} (h:w.ownsRow B 54 1 V l xs) (hB:B≤w.heap.size) (h0:0 < k) (hk:k≤100) (hl:l≤4294967296) :
  Calls Tryz.prog 94 #[V,.int .i64 k] w (GrowP w B l k V xs):=by
 have fin:∀ {base:Option Addr} {c:Nat} (cs:List Value),l≤c→cs.length=c→c < l+k→(base=none→c=0)→(∀ a,base=some a→∀ j v,cs[j]?=some v→w.cell? (a.add j)=some v)→cs.take l=xs→Calls Tryz.prog 94 #[.slice base l c,.int .i64 k] w (GrowP w B l k V xs):=fun {base c} cs hlc hcl hroom hnil hcs ht=>by
  refine(Grow_grow base l c k cs hlc hk hroom (by omega) hcl hnil hcs).mono ?_
  rintro e w' ⟨G,h1,h2,rfl,rfl⟩
  refine⟨w.heap.size,G,_,rfl,Bk.here _ _ _ rfl,h1,h2,?_,?_,hB,.inr (Nat.le_refl _),?_⟩
  ·simp[Builtin.zeroCells,hcl];omega
  ·rw[← ht]
   simp only[Array.toList_append,List.append_assoc]
   rw[List.take_append_of_le_length (by simp[hcl];omega)]
  ·exact(below_drewN (Below.refl w.heap.size w) 1).alloc (Nat.le_refl _) _
 obtain⟨h1,⟨rfl,rfl⟩ | ⟨g,cap,cur,rfl,h3,h4,h5,h6,h7,h8⟩⟩:=h
 ·have:xs=[]:=List.length_eq_zero_iff.1 (by simpa using h1)
  subst this
  exact fin [] (by omega) rfl (by omega) (fun _=>rfl) (fun a ha=>by cases ha) rfl
 ·by_cases hr:l+k≤cap
  ·refine(Grow_room h5 h6 hk hr).mono ?_
   rintro e w' ⟨rfl,rfl⟩
   exact⟨g,cap,cur,rfl,h4,hr,h6,by simpa using h7,by simpa using h8,h3,.inl rfl,Below.refl _ _⟩
  ·refine fin cur.toList h5 (by simpa using h7) (by omega) (fun h=>by cases h) (fun a ha j v hj=>?_) (by simpa using h8)
   cases ha
   exact Bk.cellsAdd h4 j v hj
theorem zero_word (w:World):(zeroValue 54).run Tryz.prog w=.ok (.int .u64 0) w:=by kernel_rfl
theorem made_clear {P:Program} {w:World} {T:Value→World→Prop} {o:Oper} {a:Act} (x:Operand) (t:TypeId) (ho:o.op=.call { callee:=.builtin .clear,args:=#[x],argTypes:=#[t] }) {e:TypeId} {z:Value} (ht:P.underlying t=some (.slice e)) (hv:∀ w,(zeroValue e).run P w=.ok z w) (hz:z.cells=#[z]) (h1:z.oneCell'=true)
  {b off n c:Nat} (hx:a.eval x=.slice (some ⟨b,off,none⟩) n c) (hn:0 < n) (hc:∀ j,j < n→(w.cell? ⟨b,off+j,none⟩).isSome=true) (hf:∀ j,j < n→w.frozen? ⟨b,off+j,none⟩=false)
  (h:T (.tuple #[]) (w.setCells b off (List.replicate n z))):Made P T ((execOp a.eval o).run P w):=by
 have hrun:=Lib.run_clear_slice w t e o.type z ht hv hz h1 b off n c hn hc hf
 unfold execOp
 simp only[ho,resolve,invoke,builtin,Sem.run_bind,Sem.run_pure,Result.andThen_ok,List.map_toArray,List.map_cons,List.map_nil,hx,hrun]
 exact h
theorem wpList_clear {P:Program} {w:World} {ops:Array Oper} {rest:List Oper} {o:Oper} {a:Act} {Q:Exit→Act→World→Prop} (hgd:o.guard=none) (x:Operand) (t:TypeId) (ho:o.op=.call { callee:=.builtin .clear,args:=#[x],argTypes:=#[t] }) {e:TypeId} {z:Value} (ht:P.underlying t=some (.slice e)) (hv:∀ w,(zeroValue e).run P w=.ok z w) (hz:z.cells=#[z]) (h1:z.oneCell'=true)
  {b off n c:Nat} (hx:a.eval x=.slice (some ⟨b,off,none⟩) n c) (hn:0 < n) (hc:∀ j,j < n→(w.cell? ⟨b,off+j,none⟩).isSome=true) (hf:∀ j,j < n→w.frozen? ⟨b,off+j,none⟩=false)
  (h:wpList P ops Q rest (a.put o.dst (.tuple #[])) (w.setCells b off (List.replicate n z))):wpList P ops Q (o::rest) a w :=
 wpList_plain hgd fun _ hK=>wp_of_made (T:=fun v' w'=>wpList P ops Q rest (a.put o.dst v') w') (made_clear x t ho ht hv hz h1 hx hn hc hf h) fun v w' hT=>hK _ _ hT
theorem Bk.setCells {g:Nat} {t:TypeId}:∀ (vs:List Value) (o:Nat) (w:World) (cs:Array Value),Bk w g t cs→o+vs.length≤cs.size→∃ cs':Array Value,Bk (w.setCells g o vs) g t cs'∧cs'.toList=cs.toList.take o++vs++cs.toList.drop (o+vs.length)
 | [],o,w,cs,h,hl=>⟨cs,h,by simp⟩
 | v::vs,o,w,cs,h,hl=>by
  simp only[List.length_cons] at hl
  obtain⟨cs',h1,h2⟩:=Bk.setCells vs (o+1) _ _ (h.set o v) (by simp;omega)
  refine⟨cs',h1,h2.trans ?_⟩
  rw[Array.toList_setIfInBounds,List.take_set,List.drop_set_of_lt (by omega)]
  rw[List.take_succ_eq_append_getElem (by simp;omega),List.set_append_right _ _ (by simp;omega)]
  rw[show o+1+vs.length=o+(vs.length+1) by omega]
  simp[Nat.min_eq_left (show o≤cs.size by omega)]
theorem Kp.setCells {S:Nat→Prop} {g:Nat} (hg:S g):∀ (vs:List Value) (o:Nat) (w:World),Kp S w (w.setCells g o vs)
 | [],_,w=>Kp.refl S w
 | v::vs,o,w=>(Kp.setCell w ⟨g,o,none⟩ v hg).trans (Kp.setCells hg vs (o+1) _) fun _ _ h=>h
end
end Go.Proofs.YtaijmgkjbbiboaaGreat
