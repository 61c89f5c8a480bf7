/- Parts of the proof: RcS1. -/
import Derived.Test.YtmbnlccafcfbeaaGreatDoorPfA
import Derived.Test.YtmbnlccafcfbeaaGreatDoorPf11
set_option linter.unusedVariables false
set_option linter.unusedSimpArgs false
set_option linter.unusedSectionVars false
set_option maxRecDepth 100000
set_option maxHeartbeats 64000000
namespace Go.Proofs.YtmbnlccafcfbeaaGreatDoor
section
open Go.RowKit
attribute [local go_sem] Oper.semAt_some
def plV (x:Rf):Bool:=rfV x && !x.weak
def wkV (x:Rf):Bool:=rfV x && (x.weak || x.kind == 0)
def inV (x:In):Bool:=ql1 x.client && decide (x.out ≥ 0)
def ndV (x:Nd):Bool:=ql1 x.peer && decide (x.stamp ≥ 0)
def ltV (x:Lt):Bool:=idV x.idm x.ids && nmV x.meth && (decide ((x.args.length:Int)≤8) && x.args.all plV)
def waV (x:Wa):Bool:=idV x.idm x.ids && nmV x.meth && intV x.key && wkV x.tgt
/-- a row that lies in memory, all of it old -/
def LsI {α:Type} (R:Rel α) (tE:TypeId) (sz:Nat) (w:World) (A:Option Addr) (c:Nat) (l:List α):Prop:=LsR R tE sz true (fun k=>k < w.heap.size) w A c l
theorem LsI.below {α:Type} {R:Rel α} {bad:TypeId→Prop} {tE:TypeId} {sz:Nat} {w w':World} {A:Option Addr} {c:Nat} {l:List α} (h:LsI R tE sz w A c l) (hU:RU R) (hR:RK R bad) (hb:bw w w'):LsI R tE sz w' A c l:=by
 unfold LsI at h ⊢;exact(h.wr hR (Kp.of_below hb)).up hU fun k hk=>Nat.lt_of_lt_of_le hk hb.size
theorem LsI.le {α:Type} {R:Rel α} {tE:TypeId} {sz:Nat} {w:World} {A:Option Addr} {c:Nat} {l:List α} (h:LsI R tE sz w A c l):l.length≤c∧l.length≤140737488351232:=by
 unfold LsI LsR at h;rw[if_pos rfl] at h;exact⟨h.1,h.2.1⟩
theorem LsI.get {α:Type} {R:Rel α} {tE:TypeId} {sz:Nat} {w:World} {A:Option Addr} {c:Nat} {l:List α} (h:LsI R tE sz w A c l) {k:Nat} {x:α} (hx:l[k]?=some x):∃ b o r,A=some ⟨b,o,none⟩∧r.length=sz∧R true (fun k=>k < w.heap.size) w x r∧∀ j v,r[j]?=some v→w.cell? ⟨b,o+k*sz+j,none⟩=some v:=by
 unfold LsI LsR at h;rw[if_pos rfl] at h;rcases h.2.2 with h0 | ⟨b,o,h1,_,h3⟩
 ·have:=(List.getElem?_eq_some_iff.1 hx).1;omega
 ·obtain⟨r,g1,g2,g3⟩:=h3 k x hx;exact⟨b,o,r,h1,g1,g2,fun j v hv=>(g3 j v hv).1⟩
def qv8 (P:Prop) (w:World) (e:Ending) (w':World):Prop:=(∃ i:Int,e=.returned (iv i)∧(0≤i↔P))∧bw w w'
theorem all_no {α:Type} {p:α→Bool} {l:List α}:l.all p=false↔∃ x∈l,p x=false:=by simp
theorem Pl_any {w:World} (x:Rf) :Calls Tryz.prog 103 #[.agg #[iv x.kind,iv x.int,iv x.owner,uv x.number,iv x.idm,iv x.ids,iv x.cls,.bool x.weak]] w (qe7 w (plV x)):=by
 obtain⟨R,hR⟩:∃ R,R=plV x:=⟨_,rfl⟩
 rw[← hR];have HR:=lh hR
 obtain⟨W,hW⟩:∃ W,W=w.alloc (.cells #[iv x.kind,iv x.int,iv x.owner,uv x.number,iv x.idm,iv x.ids,iv x.cls,.bool x.weak] 26):=⟨_,rfl⟩
 obtain⟨g,hg⟩:∃ g,g=w.heap.size:=⟨_,rfl⟩
 have hb0:bw w W:=by rw[hW];exact qa2 _ _
 have hk0:Bk W g 26 #[iv x.kind,iv x.int,iv x.owner,uv x.number,iv x.idm,iv x.ids,iv x.cls,.bool x.weak]:=by rw[hW,hg];exact Bk.new _ _ _
 have a0:cl W g 0 (iv x.kind):=hk0.cell 0;have a1:cl W g 1 (iv x.int):=hk0.cell 1;have a2:cl W g 2 (iv x.owner):=hk0.cell 2;have a3:cl W g 3 (uv x.number):=hk0.cell 3;have a4:cl W g 4 (iv x.idm):=hk0.cell 4;have a5:cl W g 5 (iv x.ids):=hk0.cell 5;have a6:cl W g 6 (iv x.cls):=hk0.cell 6;have a7:cl W g 7 (.bool x.weak):=hk0.cell 7;have HK0:=lh hk0;have HB0:=lh hb0;clear hb0 hk0 hR
 go_enter Tryz.func103,Tryz.ntmps103
 go_upto_region 1 with fail
 rw[← hW,← hg];clear hW hg;have c0:=Vref_any W x
 cases h0:rfV x with
 | true =>
  rw[h0] at c0;have H0:=lh h0;clear h0
  go_wp2_with fail
  refine c0.mono ?_;rintro e w1 ⟨rfl,hb1⟩;have HB1:=lh (HB0.o.trans (hb1.mono HB0.o.size));have hk1:=HK0.o.below hb1 HK0.o.lt;have fb0:cl w1 g 0 (iv x.kind):=hk1.cell 0;have fb1:cl w1 g 1 (iv x.int):=hk1.cell 1;have fb2:cl w1 g 2 (iv x.owner):=hk1.cell 2;have fb3:cl w1 g 3 (uv x.number):=hk1.cell 3;have fb4:cl w1 g 4 (iv x.idm):=hk1.cell 4;have fb5:cl w1 g 5 (iv x.ids):=hk1.cell 5;have fb6:cl w1 g 6 (iv x.cls):=hk1.cell 6;have fb7:cl w1 g 7 (.bool x.weak):=hk1.cell 7;have HK1:=lh hk1;clear hb1 hk1 c0 a0 a1 a2 a3 a4 a5 a6 a7
  cases h1:x.weak with
  | true =>
   have q1:x.weak=true:=h1;have H1:=lh h1;clear h1
   go_wp2_with fail
   go_ret;refine⟨cgb ?_,HB1.o⟩;rw[HR.o]
   simp[plV,H0.o,H1.o]
  | false =>
   have q1:x.weak=false:=h1;have H1:=lh h1;clear h1
   go_wp2_with fail
   go_ret;refine⟨cgb ?_,HB1.o⟩;rw[HR.o]
   simp[plV,H0.o,H1.o]
 | false =>
  rw[h0] at c0;have H0:=lh h0;clear h0
  go_wp2_with fail
  refine c0.mono ?_;rintro e w1 ⟨rfl,hb1⟩;have HB1:=lh (HB0.o.trans (hb1.mono HB0.o.size));clear hb1 c0 a0 a1 a2 a3 a4 a5 a6 a7
  go_wp2_with fail
  go_ret;refine⟨cgb ?_,HB1.o⟩;rw[HR.o]
  simp[plV,H0.o]
theorem In1_any {w:World} (x:In) :Calls Tryz.prog 139 #[.agg #[iv x.client,uv x.number,iv x.out]] w (qe7 w (inV x)):=by
 obtain⟨R,hR⟩:∃ R,R=inV x:=⟨_,rfl⟩
 rw[← hR];have HR:=lh hR
 obtain⟨W,hW⟩:∃ W,W=w.alloc (.cells #[iv x.client,uv x.number,iv x.out] 99):=⟨_,rfl⟩
 obtain⟨g,hg⟩:∃ g,g=w.heap.size:=⟨_,rfl⟩
 have hb0:bw w W:=by rw[hW];exact qa2 _ _
 have hk0:Bk W g 99 #[iv x.client,uv x.number,iv x.out]:=by rw[hW,hg];exact Bk.new _ _ _
 have a0:cl W g 0 (iv x.client):=hk0.cell 0;have a1:cl W g 1 (uv x.number):=hk0.cell 1;have a2:cl W g 2 (iv x.out):=hk0.cell 2;have HK0:=lh hk0;have HB0:=lh hb0;clear hb0 hk0 hR
 go_enter Tryz.func139,Tryz.ntmps139
 go_upto_region 1 with fail
 rw[← hW,← hg];clear hW hg;have c0:=qi2 W x.client
 cases h0:ql1 x.client with
 | true =>
  rw[h0] at c0;have H0:=lh h0;clear h0
  go_wp2_with fail
  refine c0.mono ?_;rintro e w1 ⟨rfl,hb1⟩;have HB1:=lh (HB0.o.trans (hb1.mono HB0.o.size));have hk1:=HK0.o.below hb1 HK0.o.lt;have fb0:cl w1 g 0 (iv x.client):=hk1.cell 0;have fb1:cl w1 g 1 (uv x.number):=hk1.cell 1;have fb2:cl w1 g 2 (iv x.out):=hk1.cell 2;have HK1:=lh hk1;clear hb1 hk1 c0 a0 a1 a2
  cases h1:decide (x.out ≥ 0) with
  | true =>
   have q1:decide (x.out ≥ 0)=true:=h1;have H1:=lh h1;clear h1
   go_wp2_with fail
   go_ret;refine⟨cgb ?_,HB1.o⟩;rw[HR.o]
   simp[inV,H0.o,H1.o]
  | false =>
   have q1:decide (x.out ≥ 0)=false:=h1;have H1:=lh h1;clear h1
   go_wp2_with fail
   go_ret;refine⟨cgb ?_,HB1.o⟩;rw[HR.o]
   simp[inV,H0.o,H1.o]
 | false =>
  rw[h0] at c0;have H0:=lh h0;clear h0
  go_wp2_with fail
  refine c0.mono ?_;rintro e w1 ⟨rfl,hb1⟩;have HB1:=lh (HB0.o.trans (hb1.mono HB0.o.size));clear hb1 c0 a0 a1 a2
  go_wp2_with fail
  go_ret;refine⟨cgb ?_,HB1.o⟩;rw[HR.o]
  simp[inV,H0.o]
theorem Nd1_any {w:World} (x:Nd) :Calls Tryz.prog 140 #[.agg #[iv x.peer,uv x.number,iv x.stamp]] w (qe7 w (ndV x)):=by
 obtain⟨R,hR⟩:∃ R,R=ndV x:=⟨_,rfl⟩
 rw[← hR];have HR:=lh hR
 obtain⟨W,hW⟩:∃ W,W=w.alloc (.cells #[iv x.peer,uv x.number,iv x.stamp] 136):=⟨_,rfl⟩
 obtain⟨g,hg⟩:∃ g,g=w.heap.size:=⟨_,rfl⟩
 have hb0:bw w W:=by rw[hW];exact qa2 _ _
 have hk0:Bk W g 136 #[iv x.peer,uv x.number,iv x.stamp]:=by rw[hW,hg];exact Bk.new _ _ _
 have a0:cl W g 0 (iv x.peer):=hk0.cell 0;have a1:cl W g 1 (uv x.number):=hk0.cell 1;have a2:cl W g 2 (iv x.stamp):=hk0.cell 2;have HK0:=lh hk0;have HB0:=lh hb0;clear hb0 hk0 hR
 go_enter Tryz.func140,Tryz.ntmps140
 go_upto_region 1 with fail
 rw[← hW,← hg];clear hW hg;have c0:=qi2 W x.peer
 cases h0:ql1 x.peer with
 | true =>
  rw[h0] at c0;have H0:=lh h0;clear h0
  go_wp2_with fail
  refine c0.mono ?_;rintro e w1 ⟨rfl,hb1⟩;have HB1:=lh (HB0.o.trans (hb1.mono HB0.o.size));have hk1:=HK0.o.below hb1 HK0.o.lt;have fb0:cl w1 g 0 (iv x.peer):=hk1.cell 0;have fb1:cl w1 g 1 (uv x.number):=hk1.cell 1;have fb2:cl w1 g 2 (iv x.stamp):=hk1.cell 2;have HK1:=lh hk1;clear hb1 hk1 c0 a0 a1 a2
  cases h1:decide (x.stamp ≥ 0) with
  | true =>
   have q1:decide (x.stamp ≥ 0)=true:=h1;have H1:=lh h1;clear h1
   go_wp2_with fail
   go_ret;refine⟨cgb ?_,HB1.o⟩;rw[HR.o]
   simp[ndV,H0.o,H1.o]
  | false =>
   have q1:decide (x.stamp ≥ 0)=false:=h1;have H1:=lh h1;clear h1
   go_wp2_with fail
   go_ret;refine⟨cgb ?_,HB1.o⟩;rw[HR.o]
   simp[ndV,H0.o,H1.o]
 | false =>
  rw[h0] at c0;have H0:=lh h0;clear h0
  go_wp2_with fail
  refine c0.mono ?_;rintro e w1 ⟨rfl,hb1⟩;have HB1:=lh (HB0.o.trans (hb1.mono HB0.o.size));clear hb1 c0 a0 a1 a2
  go_wp2_with fail
  go_ret;refine⟨cgb ?_,HB1.o⟩;rw[HR.o]
  simp[ndV,H0.o]
theorem Wk_any {w:World} (x:Rf) :Calls Tryz.prog 136 #[.agg #[iv x.kind,iv x.int,iv x.owner,uv x.number,iv x.idm,iv x.ids,iv x.cls,.bool x.weak]] w (qe7 w (wkV x)):=by
 obtain⟨R,hR⟩:∃ R,R=wkV x:=⟨_,rfl⟩
 rw[← hR];have HR:=lh hR
 obtain⟨W,hW⟩:∃ W,W=w.alloc (.cells #[iv x.kind,iv x.int,iv x.owner,uv x.number,iv x.idm,iv x.ids,iv x.cls,.bool x.weak] 26):=⟨_,rfl⟩
 obtain⟨g,hg⟩:∃ g,g=w.heap.size:=⟨_,rfl⟩
 have hb0:bw w W:=by rw[hW];exact qa2 _ _
 have hk0:Bk W g 26 #[iv x.kind,iv x.int,iv x.owner,uv x.number,iv x.idm,iv x.ids,iv x.cls,.bool x.weak]:=by rw[hW,hg];exact Bk.new _ _ _
 have a0:cl W g 0 (iv x.kind):=hk0.cell 0;have a1:cl W g 1 (iv x.int):=hk0.cell 1;have a2:cl W g 2 (iv x.owner):=hk0.cell 2;have a3:cl W g 3 (uv x.number):=hk0.cell 3;have a4:cl W g 4 (iv x.idm):=hk0.cell 4;have a5:cl W g 5 (iv x.ids):=hk0.cell 5;have a6:cl W g 6 (iv x.cls):=hk0.cell 6;have a7:cl W g 7 (.bool x.weak):=hk0.cell 7;have HK0:=lh hk0;have HB0:=lh hb0;clear hb0 hk0 hR
 go_enter Tryz.func136,Tryz.ntmps136
 go_upto_region 1 with fail
 rw[← hW,← hg];clear hW hg;have c0:=Vref_any W x
 cases h0:rfV x with
 | true =>
  rw[h0] at c0;have H0:=lh h0;clear h0
  go_wp2_with fail
  refine c0.mono ?_;rintro e w1 ⟨rfl,hb1⟩;have HB1:=lh (HB0.o.trans (hb1.mono HB0.o.size));have hk1:=HK0.o.below hb1 HK0.o.lt;have fb0:cl w1 g 0 (iv x.kind):=hk1.cell 0;have fb1:cl w1 g 1 (iv x.int):=hk1.cell 1;have fb2:cl w1 g 2 (iv x.owner):=hk1.cell 2;have fb3:cl w1 g 3 (uv x.number):=hk1.cell 3;have fb4:cl w1 g 4 (iv x.idm):=hk1.cell 4;have fb5:cl w1 g 5 (iv x.ids):=hk1.cell 5;have fb6:cl w1 g 6 (iv x.cls):=hk1.cell 6;have fb7:cl w1 g 7 (.bool x.weak):=hk1.cell 7;have HK1:=lh hk1;clear hb1 hk1 c0 a0 a1 a2 a3 a4 a5 a6 a7
  cases h1:x.weak with
  | true =>
   have q1:x.weak=true:=h1;have H1:=lh h1;clear h1
   go_wp2_with fail
   go_ret;refine⟨cgb ?_,HB1.o⟩;rw[HR.o]
   simp[wkV,H0.o,H1.o]
  | false =>
   have q1:x.weak=false:=h1;have H1:=lh h1;clear h1
   cases h2:(x.kind == 0) with
   | true =>
    have q2:(x.kind == 0)=true:=h2;have H2:=lh h2;clear h2
    go_wp2_with fail
    go_ret;refine⟨cgb ?_,HB1.o⟩;rw[HR.o]
    simp[wkV,H0.o,H1.o,H2.o]
   | false =>
    have q2:(x.kind == 0)=false:=h2;have H2:=lh h2;clear h2
    go_wp2_with fail
    go_ret;refine⟨cgb ?_,HB1.o⟩;rw[HR.o]
    simp[wkV,H0.o,H1.o,H2.o]
 | false =>
  rw[h0] at c0;have H0:=lh h0;clear h0
  go_wp2_with fail
  refine c0.mono ?_;rintro e w1 ⟨rfl,hb1⟩;have HB1:=lh (HB0.o.trans (hb1.mono HB0.o.size));clear hb1 c0 a0 a1 a2 a3 a4 a5 a6 a7
  go_wp2_with fail
  go_ret;refine⟨cgb ?_,HB1.o⟩;rw[HR.o]
  simp[wkV,H0.o]
theorem notRf_any {w:World} (x:Rf)  {g:Nat} (hg:Bk w g 58 #[.func (.func 103) #[] #[]]):Calls Tryz.prog 162 #[.agg #[iv x.kind,iv x.int,iv x.owner,uv x.number,iv x.idm,iv x.ids,iv x.cls,.bool x.weak],pq g 0] w (qe7 w (!plV x)):=by
 obtain⟨W,hW⟩:∃ W,W=w.alloc (.cells #[iv x.kind,iv x.int,iv x.owner,uv x.number,iv x.idm,iv x.ids,iv x.cls,.bool x.weak] 26):=⟨_,rfl⟩
 obtain⟨k,hk⟩:∃ k,k=w.heap.size:=⟨_,rfl⟩
 have hb0:bw w W:=by rw[hW];exact qa2 _ _
 have hk0:Bk W k 26 #[iv x.kind,iv x.int,iv x.owner,uv x.number,iv x.idm,iv x.ids,iv x.cls,.bool x.weak]:=by rw[hW,hk];exact Bk.new _ _ _
 have a0:cl W k 0 (iv x.kind):=hk0.cell 0;have a1:cl W k 1 (iv x.int):=hk0.cell 1;have a2:cl W k 2 (iv x.owner):=hk0.cell 2;have a3:cl W k 3 (uv x.number):=hk0.cell 3;have a4:cl W k 4 (iv x.idm):=hk0.cell 4;have a5:cl W k 5 (iv x.ids):=hk0.cell 5;have a6:cl W k 6 (iv x.cls):=hk0.cell 6;have a7:cl W k 7 (.bool x.weak):=hk0.cell 7;have g0:cl W g 0 (.func (.func 103) #[] #[]):=(hg.below hb0 hg.lt).cell 0;have cF:=Pl_any (w:=W) x;have HB0:=lh hb0
 obtain⟨B,hB⟩:∃ B,B=plV x:=⟨_,rfl⟩
 rw[← hB] at cF ⊢;clear hb0 hk0 hg hB
 go_enter Tryz.func162,Tryz.ntmps162
 go_upto_region 1 with fail
 rw[← hW,← hk];clear hW hk
 go_wp2_with fail
 refine cF.mono ?_;rintro e w1 ⟨rfl,hb1⟩;have HB1:=lh (HB0.o.trans (hb1.mono HB0.o.size));clear hb1 cF g0 a0 a1 a2 a3 a4 a5 a6 a7
 go_wp2_with fail
 go_ret;exact⟨rfl,HB1.o⟩
theorem idxRf_any {w:World} {A:Option Addr} {c:Nat} {l:List Rf} (hL:LsI (qa6 rfC) 26 8 w A c l) {g:Nat} (hg:Bk w g 58 #[.func (.func 103) #[] #[]]):Calls Tryz.prog 177 #[.slice A l.length c,.func (.func 162) #[] #[pq g 0]] w (qv8 (l.all plV=false) w):=by
 obtain⟨n,hn⟩:∃ n,n=l.length:=⟨_,rfl⟩
 have hlen:n≤140737488351232:=by rw[hn];exact hL.le.2
 have hcap:n≤c:=by rw[hn];exact hL.le.1
 rw[← hn];have HS:=lh (And.intro hL (And.intro hn hg));clear hL hn hg
 go_enter Tryz.func177,Tryz.ntmps177
 go_wp2_with fail
 go_loopg [8] (n) (fun q i wr=>∃ (k:Nat),i=iv k∧k+q=n∧(∀ j x,j < k→l[j]?=some x→plV x=true)∧bw w wr)
 case atStart=>exact⟨0,rfl,by omega,fun j x hj=>by omega,Below.refl _ _⟩
 case round =>
  obtain⟨k,rfl,hkq,hall,hB⟩:=hrel;have HALL:=lh hall;have HB:=lh hB;have hsz:=hB.size;clear hall hB
  cases gk with
  | zero =>
   obtain rfl:k=n:=hkq
   go_wp2_with fail
   go_ret;refine⟨⟨_,rfl,⟨fun h=>absurd h (by decide),?_⟩⟩,HB.o⟩;rw[all_no];rintro⟨x,hx,hf⟩;obtain⟨j,hj⟩:=List.mem_iff_getElem?.1 hx;have:=HALL.o j x (by have:=(List.getElem?_eq_some_iff.1 hj).1;rw[← HS.o.2.1] at this;exact this) hj;rw[hf] at this;cases this
  | succ q =>
   have hkn:k < n:=by omega
   have hkc:k < c:=by omega
   obtain⟨wo,rfl⟩:∃ wo:World,wo=wr:=⟨_,rfl⟩
   obtain⟨x,hx⟩:∃ x,l[k]?=some x:=⟨_,List.getElem?_eq_getElem (by rw[← HS.o.2.1];exact hkn)⟩
   obtain⟨cb,co,r,rfl,_,hr,hcells⟩:=(HS.o.1.below (qa1 rfC) (qa0 rfC) HB.o).get hx;unfold qa6 at hr;subst hr;have hx0:cl wo cb (co+k*8) (iv x.kind):=hcells 0 _ rfl;have hx1:cl wo cb (co+k*8+1) (iv x.int):=hcells 1 _ rfl;have hx2:cl wo cb (co+k*8+2) (iv x.owner):=hcells 2 _ rfl;have hx3:cl wo cb (co+k*8+3) (uv x.number):=hcells 3 _ rfl;have hx4:cl wo cb (co+k*8+4) (iv x.idm):=hcells 4 _ rfl;have hx5:cl wo cb (co+k*8+5) (iv x.ids):=hcells 5 _ rfl;have hx6:cl wo cb (co+k*8+6) (iv x.cls):=hcells 6 _ rfl;have hx7:cl wo cb (co+k*8+7) (.bool x.weak):=hcells 7 _ rfl;have HX:=lh hx;have cO:=notRf_any (w:=wo) x (HS.o.2.2.below HB.o HS.o.2.2.lt);clear hx hcells;have hw1:IntKind.i64.wrap (k:Int)=(k:Int):=IntWalk.i64_in _ (by omega)
   cases hf:plV x with
   | false =>
    rw[hf] at cO;have HF:=lh hf;clear hf
    go_wp2_with fail
    refine cO.mono ?_;rintro e w1 ⟨rfl,hb⟩;have HB1:=lh (HB.o.trans (hb.mono hsz));clear hb cO hx0 hx1 hx2 hx3 hx4 hx5 hx6 hx7
    go_wp2_with fail
    go_ret;exact⟨⟨_,rfl,⟨fun _=>all_no.2 ⟨_,List.mem_of_getElem? HX.o,HF.o⟩,fun _=>by omega⟩⟩,HB1.o⟩
   | true =>
    rw[hf] at cO;have HF:=lh hf;clear hf
    go_wp2_with fail
    refine cO.mono ?_;rintro e w1 ⟨rfl,hb⟩;have HB1:=lh (HB.o.trans (hb.mono hsz));clear hb cO hx0 hx1 hx2 hx3 hx4 hx5 hx6 hx7
    go_wp2_with fail
    go_roundg q
    case measure=>omega
    case rel =>
     refine⟨k+1,by go_num,by omega,fun j x hj hx=>?_,HB1.o⟩
     by_cases h:j < k
     ·exact HALL.o j x h hx
     ·obtain rfl:j=k:=by omega
      have h2:=HX.o;rw[hx] at h2;cases h2;exact HF.o
theorem hasRf_any {w:World} {A:Option Addr} {c:Nat} {l:List Rf} (hL:LsI (qa6 rfC) 26 8 w A c l) {g:Nat} (hg:Bk w g 58 #[.func (.func 103) #[] #[]]):Calls Tryz.prog 161 #[.slice A l.length c,.func (.func 162) #[] #[pq g 0]] w (qe7 w (!l.all plV)):=by
 have cI:=idxRf_any hL hg;clear hL hg
 obtain⟨n,hn⟩:∃ n,n=l.length:=⟨_,rfl⟩
 rw[← hn] at cI ⊢
 obtain⟨B,hB⟩:∃ B,B=l.all plV:=⟨_,rfl⟩
 rw[← hB] at cI ⊢;clear hn hB
 go_enter Tryz.func161,Tryz.ntmps161
 go_wp2_with fail
 refine cI.mono ?_;rintro e w1 ⟨⟨i,rfl,hi⟩,hb⟩;have HI:=lh hi;have HB:=lh hb;clear hi hb cI
 go_wp2
 go_ret;refine⟨cgb ?_,HB.o⟩
 cases B with
 | false=>exact decide_eq_true (HI.o.2 rfl)
 | true=>exact decide_eq_false fun h=>by have:=HI.o.1 h;cases this
theorem allRf_any {w:World} {A:Option Addr} {c:Nat} {l:List Rf} (hL:LsI (qa6 rfC) 26 8 w A c l) (m:Int):Calls Tryz.prog 130 #[.slice A l.length c,iv m,.func (.func 103) #[] #[]] w (qe7 w (decide ((l.length:Int)≤m) && l.all plV)):=by
 obtain⟨W,hW⟩:∃ W,W=w.alloc (.cells #[.func (.func 103) #[] #[]] 58):=⟨_,rfl⟩
 obtain⟨k,hk⟩:∃ k,k=w.heap.size:=⟨_,rfl⟩
 have hb0:bw w W:=by rw[hW];exact qa2 _ _
 have hk0:Bk W k 58 #[.func (.func 103) #[] #[]]:=by rw[hW,hk];exact Bk.new _ _ _
 have cH:=hasRf_any (hL.below (qa1 rfC) (qa0 rfC) hb0) hk0;have hlen:=hL.le.2;have HB0:=lh hb0
 obtain⟨n,hn⟩:∃ n,n=l.length:=⟨_,rfl⟩
 rw[← hn] at cH hlen ⊢
 obtain⟨B,hB⟩:∃ B,B=l.all plV:=⟨_,rfl⟩
 rw[← hB] at cH ⊢;clear hn hB hb0 hk0 hL
 go_enter Tryz.func130,Tryz.ntmps130
 go_upto_region 1 with fail
 rw[← hW,← hk];clear hW hk
 cases h0:decide ((n:Int)≤m) with
 | true =>
  go_wp2_with fail
  refine cH.mono ?_;rintro e w1 ⟨rfl,hb1⟩;have HB1:=lh (HB0.o.trans (hb1.mono HB0.o.size));clear hb1 cH
  go_wp2_with fail
  go_ret;exact⟨by rw[h0];cases B <;> rfl,HB1.o⟩
 | false =>
  clear cH
  go_wp2_with fail
  go_ret;exact⟨by rw[h0];rfl,HB0.o⟩
theorem notIn_any {w:World} (x:In)  {g:Nat} (hg:Bk w g 168 #[.func (.func 139) #[] #[]]):Calls Tryz.prog 173 #[.agg #[iv x.client,uv x.number,iv x.out],pq g 0] w (qe7 w (!inV x)):=by
 obtain⟨W,hW⟩:∃ W,W=w.alloc (.cells #[iv x.client,uv x.number,iv x.out] 99):=⟨_,rfl⟩
 obtain⟨k,hk⟩:∃ k,k=w.heap.size:=⟨_,rfl⟩
 have hb0:bw w W:=by rw[hW];exact qa2 _ _
 have hk0:Bk W k 99 #[iv x.client,uv x.number,iv x.out]:=by rw[hW,hk];exact Bk.new _ _ _
 have a0:cl W k 0 (iv x.client):=hk0.cell 0;have a1:cl W k 1 (uv x.number):=hk0.cell 1;have a2:cl W k 2 (iv x.out):=hk0.cell 2;have g0:cl W g 0 (.func (.func 139) #[] #[]):=(hg.below hb0 hg.lt).cell 0;have cF:=In1_any (w:=W) x;have HB0:=lh hb0
 obtain⟨B,hB⟩:∃ B,B=inV x:=⟨_,rfl⟩
 rw[← hB] at cF ⊢;clear hb0 hk0 hg hB
 go_enter Tryz.func173,Tryz.ntmps173
 go_upto_region 1 with fail
 rw[← hW,← hk];clear hW hk
 go_wp2_with fail
 refine cF.mono ?_;rintro e w1 ⟨rfl,hb1⟩;have HB1:=lh (HB0.o.trans (hb1.mono HB0.o.size));clear hb1 cF g0 a0 a1 a2
 go_wp2_with fail
 go_ret;exact⟨rfl,HB1.o⟩
theorem idxIn_any {w:World} {A:Option Addr} {c:Nat} {l:List In} (hL:LsI (qa6 inC) 99 3 w A c l) {g:Nat} (hg:Bk w g 168 #[.func (.func 139) #[] #[]]):Calls Tryz.prog 186 #[.slice A l.length c,.func (.func 173) #[] #[pq g 0]] w (qv8 (l.all inV=false) w):=by
 obtain⟨n,hn⟩:∃ n,n=l.length:=⟨_,rfl⟩
 have hlen:n≤140737488351232:=by rw[hn];exact hL.le.2
 have hcap:n≤c:=by rw[hn];exact hL.le.1
 rw[← hn];have HS:=lh (And.intro hL (And.intro hn hg));clear hL hn hg
 go_enter Tryz.func186,Tryz.ntmps186
 go_wp2_with fail
 go_loopg [8] (n) (fun q i wr=>∃ (k:Nat),i=iv k∧k+q=n∧(∀ j x,j < k→l[j]?=some x→inV x=true)∧bw w wr)
 case atStart=>exact⟨0,rfl,by omega,fun j x hj=>by omega,Below.refl _ _⟩
 case round =>
  obtain⟨k,rfl,hkq,hall,hB⟩:=hrel;have HALL:=lh hall;have HB:=lh hB;have hsz:=hB.size;clear hall hB
  cases gk with
  | zero =>
   obtain rfl:k=n:=hkq
   go_wp2_with fail
   go_ret;refine⟨⟨_,rfl,⟨fun h=>absurd h (by decide),?_⟩⟩,HB.o⟩;rw[all_no];rintro⟨x,hx,hf⟩;obtain⟨j,hj⟩:=List.mem_iff_getElem?.1 hx;have:=HALL.o j x (by have:=(List.getElem?_eq_some_iff.1 hj).1;rw[← HS.o.2.1] at this;exact this) hj;rw[hf] at this;cases this
  | succ q =>
   have hkn:k < n:=by omega
   have hkc:k < c:=by omega
   obtain⟨wo,rfl⟩:∃ wo:World,wo=wr:=⟨_,rfl⟩
   obtain⟨x,hx⟩:∃ x,l[k]?=some x:=⟨_,List.getElem?_eq_getElem (by rw[← HS.o.2.1];exact hkn)⟩
   obtain⟨cb,co,r,rfl,_,hr,hcells⟩:=(HS.o.1.below (qa1 inC) (qa0 inC) HB.o).get hx;unfold qa6 at hr;subst hr;have hx0:cl wo cb (co+k*3) (iv x.client):=hcells 0 _ rfl;have hx1:cl wo cb (co+k*3+1) (uv x.number):=hcells 1 _ rfl;have hx2:cl wo cb (co+k*3+2) (iv x.out):=hcells 2 _ rfl;have HX:=lh hx;have cO:=notIn_any (w:=wo) x (HS.o.2.2.below HB.o HS.o.2.2.lt);clear hx hcells;have hw1:IntKind.i64.wrap (k:Int)=(k:Int):=IntWalk.i64_in _ (by omega)
   cases hf:inV x with
   | false =>
    rw[hf] at cO;have HF:=lh hf;clear hf
    go_wp2_with fail
    refine cO.mono ?_;rintro e w1 ⟨rfl,hb⟩;have HB1:=lh (HB.o.trans (hb.mono hsz));clear hb cO hx0 hx1 hx2
    go_wp2_with fail
    go_ret;exact⟨⟨_,rfl,⟨fun _=>all_no.2 ⟨_,List.mem_of_getElem? HX.o,HF.o⟩,fun _=>by omega⟩⟩,HB1.o⟩
   | true =>
    rw[hf] at cO;have HF:=lh hf;clear hf
    go_wp2_with fail
    refine cO.mono ?_;rintro e w1 ⟨rfl,hb⟩;have HB1:=lh (HB.o.trans (hb.mono hsz));clear hb cO hx0 hx1 hx2
    go_wp2_with fail
    go_roundg q
    case measure=>omega
    case rel =>
     refine⟨k+1,by go_num,by omega,fun j x hj hx=>?_,HB1.o⟩
     by_cases h:j < k
     ·exact HALL.o j x h hx
     ·obtain rfl:j=k:=by omega
      have h2:=HX.o;rw[hx] at h2;cases h2;exact HF.o
theorem hasIn_any {w:World} {A:Option Addr} {c:Nat} {l:List In} (hL:LsI (qa6 inC) 99 3 w A c l) {g:Nat} (hg:Bk w g 168 #[.func (.func 139) #[] #[]]):Calls Tryz.prog 172 #[.slice A l.length c,.func (.func 173) #[] #[pq g 0]] w (qe7 w (!l.all inV)):=by
 have cI:=idxIn_any hL hg;clear hL hg
 obtain⟨n,hn⟩:∃ n,n=l.length:=⟨_,rfl⟩
 rw[← hn] at cI ⊢
 obtain⟨B,hB⟩:∃ B,B=l.all inV:=⟨_,rfl⟩
 rw[← hB] at cI ⊢;clear hn hB
 go_enter Tryz.func172,Tryz.ntmps172
 go_wp2_with fail
 refine cI.mono ?_;rintro e w1 ⟨⟨i,rfl,hi⟩,hb⟩;have HI:=lh hi;have HB:=lh hb;clear hi hb cI
 go_wp2
 go_ret;refine⟨cgb ?_,HB.o⟩
 cases B with
 | false=>exact decide_eq_true (HI.o.2 rfl)
 | true=>exact decide_eq_false fun h=>by have:=HI.o.1 h;cases this
theorem allIn_any {w:World} {A:Option Addr} {c:Nat} {l:List In} (hL:LsI (qa6 inC) 99 3 w A c l) (m:Int):Calls Tryz.prog 138 #[.slice A l.length c,iv m,.func (.func 139) #[] #[]] w (qe7 w (decide ((l.length:Int)≤m) && l.all inV)):=by
 obtain⟨W,hW⟩:∃ W,W=w.alloc (.cells #[.func (.func 139) #[] #[]] 168):=⟨_,rfl⟩
 obtain⟨k,hk⟩:∃ k,k=w.heap.size:=⟨_,rfl⟩
 have hb0:bw w W:=by rw[hW];exact qa2 _ _
 have hk0:Bk W k 168 #[.func (.func 139) #[] #[]]:=by rw[hW,hk];exact Bk.new _ _ _
 have cH:=hasIn_any (hL.below (qa1 inC) (qa0 inC) hb0) hk0;have hlen:=hL.le.2;have HB0:=lh hb0
 obtain⟨n,hn⟩:∃ n,n=l.length:=⟨_,rfl⟩
 rw[← hn] at cH hlen ⊢
 obtain⟨B,hB⟩:∃ B,B=l.all inV:=⟨_,rfl⟩
 rw[← hB] at cH ⊢;clear hn hB hb0 hk0 hL
 go_enter Tryz.func138,Tryz.ntmps138
 go_upto_region 1 with fail
 rw[← hW,← hk];clear hW hk
 cases h0:decide ((n:Int)≤m) with
 | true =>
  go_wp2_with fail
  refine cH.mono ?_;rintro e w1 ⟨rfl,hb1⟩;have HB1:=lh (HB0.o.trans (hb1.mono HB0.o.size));clear hb1 cH
  go_wp2_with fail
  go_ret;exact⟨by rw[h0];cases B <;> rfl,HB1.o⟩
 | false =>
  clear cH
  go_wp2_with fail
  go_ret;exact⟨by rw[h0];rfl,HB0.o⟩
theorem notNd_any {w:World} (x:Nd)  {g:Nat} (hg:Bk w g 169 #[.func (.func 140) #[] #[]]):Calls Tryz.prog 175 #[.agg #[iv x.peer,uv x.number,iv x.stamp],pq g 0] w (qe7 w (!ndV x)):=by
 obtain⟨W,hW⟩:∃ W,W=w.alloc (.cells #[iv x.peer,uv x.number,iv x.stamp] 136):=⟨_,rfl⟩
 obtain⟨k,hk⟩:∃ k,k=w.heap.size:=⟨_,rfl⟩
 have hb0:bw w W:=by rw[hW];exact qa2 _ _
 have hk0:Bk W k 136 #[iv x.peer,uv x.number,iv x.stamp]:=by rw[hW,hk];exact Bk.new _ _ _
 have a0:cl W k 0 (iv x.peer):=hk0.cell 0;have a1:cl W k 1 (uv x.number):=hk0.cell 1;have a2:cl W k 2 (iv x.stamp):=hk0.cell 2;have g0:cl W g 0 (.func (.func 140) #[] #[]):=(hg.below hb0 hg.lt).cell 0;have cF:=Nd1_any (w:=W) x;have HB0:=lh hb0
 obtain⟨B,hB⟩:∃ B,B=ndV x:=⟨_,rfl⟩
 rw[← hB] at cF ⊢;clear hb0 hk0 hg hB
 go_enter Tryz.func175,Tryz.ntmps175
 go_upto_region 1 with fail
 rw[← hW,← hk];clear hW hk
 go_wp2_with fail
 refine cF.mono ?_;rintro e w1 ⟨rfl,hb1⟩;have HB1:=lh (HB0.o.trans (hb1.mono HB0.o.size));clear hb1 cF g0 a0 a1 a2
 go_wp2_with fail
 go_ret;exact⟨rfl,HB1.o⟩
theorem idxNd_any {w:World} {A:Option Addr} {c:Nat} {l:List Nd} (hL:LsI (qa6 ndC) 136 3 w A c l) {g:Nat} (hg:Bk w g 169 #[.func (.func 140) #[] #[]]):Calls Tryz.prog 187 #[.slice A l.length c,.func (.func 175) #[] #[pq g 0]] w (qv8 (l.all ndV=false) w):=by
 obtain⟨n,hn⟩:∃ n,n=l.length:=⟨_,rfl⟩
 have hlen:n≤140737488351232:=by rw[hn];exact hL.le.2
 have hcap:n≤c:=by rw[hn];exact hL.le.1
 rw[← hn];have HS:=lh (And.intro hL (And.intro hn hg));clear hL hn hg
 go_enter Tryz.func187,Tryz.ntmps187
 go_wp2_with fail
 go_loopg [8] (n) (fun q i wr=>∃ (k:Nat),i=iv k∧k+q=n∧(∀ j x,j < k→l[j]?=some x→ndV x=true)∧bw w wr)
 case atStart=>exact⟨0,rfl,by omega,fun j x hj=>by omega,Below.refl _ _⟩
 case round =>
  obtain⟨k,rfl,hkq,hall,hB⟩:=hrel;have HALL:=lh hall;have HB:=lh hB;have hsz:=hB.size;clear hall hB
  cases gk with
  | zero =>
   obtain rfl:k=n:=hkq
   go_wp2_with fail
   go_ret;refine⟨⟨_,rfl,⟨fun h=>absurd h (by decide),?_⟩⟩,HB.o⟩;rw[all_no];rintro⟨x,hx,hf⟩;obtain⟨j,hj⟩:=List.mem_iff_getElem?.1 hx;have:=HALL.o j x (by have:=(List.getElem?_eq_some_iff.1 hj).1;rw[← HS.o.2.1] at this;exact this) hj;rw[hf] at this;cases this
  | succ q =>
   have hkn:k < n:=by omega
   have hkc:k < c:=by omega
   obtain⟨wo,rfl⟩:∃ wo:World,wo=wr:=⟨_,rfl⟩
   obtain⟨x,hx⟩:∃ x,l[k]?=some x:=⟨_,List.getElem?_eq_getElem (by rw[← HS.o.2.1];exact hkn)⟩
   obtain⟨cb,co,r,rfl,_,hr,hcells⟩:=(HS.o.1.below (qa1 ndC) (qa0 ndC) HB.o).get hx;unfold qa6 at hr;subst hr;have hx0:cl wo cb (co+k*3) (iv x.peer):=hcells 0 _ rfl;have hx1:cl wo cb (co+k*3+1) (uv x.number):=hcells 1 _ rfl;have hx2:cl wo cb (co+k*3+2) (iv x.stamp):=hcells 2 _ rfl;have HX:=lh hx;have cO:=notNd_any (w:=wo) x (HS.o.2.2.below HB.o HS.o.2.2.lt);clear hx hcells;have hw1:IntKind.i64.wrap (k:Int)=(k:Int):=IntWalk.i64_in _ (by omega)
   cases hf:ndV x with
   | false =>
    rw[hf] at cO;have HF:=lh hf;clear hf
    go_wp2_with fail
    refine cO.mono ?_;rintro e w1 ⟨rfl,hb⟩;have HB1:=lh (HB.o.trans (hb.mono hsz));clear hb cO hx0 hx1 hx2
    go_wp2_with fail
    go_ret;exact⟨⟨_,rfl,⟨fun _=>all_no.2 ⟨_,List.mem_of_getElem? HX.o,HF.o⟩,fun _=>by omega⟩⟩,HB1.o⟩
   | true =>
    rw[hf] at cO;have HF:=lh hf;clear hf
    go_wp2_with fail
    refine cO.mono ?_;rintro e w1 ⟨rfl,hb⟩;have HB1:=lh (HB.o.trans (hb.mono hsz));clear hb cO hx0 hx1 hx2
    go_wp2_with fail
    go_roundg q
    case measure=>omega
    case rel =>
     refine⟨k+1,by go_num,by omega,fun j x hj hx=>?_,HB1.o⟩
     by_cases h:j < k
     ·exact HALL.o j x h hx
     ·obtain rfl:j=k:=by omega
      have h2:=HX.o;rw[hx] at h2;cases h2;exact HF.o
theorem hasNd_any {w:World} {A:Option Addr} {c:Nat} {l:List Nd} (hL:LsI (qa6 ndC) 136 3 w A c l) {g:Nat} (hg:Bk w g 169 #[.func (.func 140) #[] #[]]):Calls Tryz.prog 174 #[.slice A l.length c,.func (.func 175) #[] #[pq g 0]] w (qe7 w (!l.all ndV)):=by
 have cI:=idxNd_any hL hg;clear hL hg
 obtain⟨n,hn⟩:∃ n,n=l.length:=⟨_,rfl⟩
 rw[← hn] at cI ⊢
 obtain⟨B,hB⟩:∃ B,B=l.all ndV:=⟨_,rfl⟩
 rw[← hB] at cI ⊢;clear hn hB
 go_enter Tryz.func174,Tryz.ntmps174
 go_wp2_with fail
 refine cI.mono ?_;rintro e w1 ⟨⟨i,rfl,hi⟩,hb⟩;have HI:=lh hi;have HB:=lh hb;clear hi hb cI
 go_wp2
 go_ret;refine⟨cgb ?_,HB.o⟩
 cases B with
 | false=>exact decide_eq_true (HI.o.2 rfl)
 | true=>exact decide_eq_false fun h=>by have:=HI.o.1 h;cases this
theorem qv4 {w:World} {A:Option Addr} {c:Nat} {l:List Nd} (hL:LsI (qa6 ndC) 136 3 w A c l) (m:Int):Calls Tryz.prog 141 #[.slice A l.length c,iv m,.func (.func 140) #[] #[]] w (qe7 w (decide ((l.length:Int)≤m) && l.all ndV)):=by
 obtain⟨W,hW⟩:∃ W,W=w.alloc (.cells #[.func (.func 140) #[] #[]] 169):=⟨_,rfl⟩
 obtain⟨k,hk⟩:∃ k,k=w.heap.size:=⟨_,rfl⟩
 have hb0:bw w W:=by rw[hW];exact qa2 _ _
 have hk0:Bk W k 169 #[.func (.func 140) #[] #[]]:=by rw[hW,hk];exact Bk.new _ _ _
 have cH:=hasNd_any (hL.below (qa1 ndC) (qa0 ndC) hb0) hk0;have hlen:=hL.le.2;have HB0:=lh hb0
 obtain⟨n,hn⟩:∃ n,n=l.length:=⟨_,rfl⟩
 rw[← hn] at cH hlen ⊢
 obtain⟨B,hB⟩:∃ B,B=l.all ndV:=⟨_,rfl⟩
 rw[← hB] at cH ⊢;clear hn hB hb0 hk0 hL
 go_enter Tryz.func141,Tryz.ntmps141
 go_upto_region 1 with fail
 rw[← hW,← hk];clear hW hk
 cases h0:decide ((n:Int)≤m) with
 | true =>
  go_wp2_with fail
  refine cH.mono ?_;rintro e w1 ⟨rfl,hb1⟩;have HB1:=lh (HB0.o.trans (hb1.mono HB0.o.size));clear hb1 cH
  go_wp2_with fail
  go_ret;exact⟨by rw[h0];cases B <;> rfl,HB1.o⟩
 | false =>
  clear cH
  go_wp2_with fail
  go_ret;exact⟨by rw[h0];rfl,HB0.o⟩
theorem Lt_any {w:World} (x:Lt) {A:Option Addr} {c:Nat} (hl:LsI (qa6 rfC) 26 8 w A c x.args):Calls Tryz.prog 74 #[.agg #[iv x.idm,iv x.ids,.string x.meth,.slice A x.args.length c]] w (qe7 w (ltV x)):=by
 obtain⟨R,hR⟩:∃ R,R=ltV x:=⟨_,rfl⟩
 rw[← hR];have HR:=lh hR
 obtain⟨W,hW⟩:∃ W,W=w.alloc (.cells #[iv x.idm,iv x.ids,.string x.meth,.slice A x.args.length c] 29):=⟨_,rfl⟩
 obtain⟨g,hg⟩:∃ g,g=w.heap.size:=⟨_,rfl⟩
 have hb0:bw w W:=by rw[hW];exact qa2 _ _
 have hk0:Bk W g 29 #[iv x.idm,iv x.ids,.string x.meth,.slice A x.args.length c]:=by rw[hW,hg];exact Bk.new _ _ _
 have Mhl0:Hid (LsI (qa6 rfC) 26 8 W A c x.args):=lh (hl.below (qa1 rfC) (qa0 rfC) hb0);have a0:cl W g 0 (iv x.idm):=hk0.cell 0;have a1:cl W g 1 (iv x.ids):=hk0.cell 1;have a2:cl W g 2 (.string x.meth):=hk0.cell 2;have a3:cl W g 3 (.slice A x.args.length c):=hk0.cell 3;have HK0:=lh hk0;have HB0:=lh hb0;clear hb0 hk0 hR hl
 go_enter Tryz.func74,Tryz.ntmps74
 go_upto_region 1 with fail
 rw[← hW,← hg];clear hW hg;have c0:=qv9 W x.idm x.ids
 cases h0:idV x.idm x.ids with
 | true =>
  rw[h0] at c0;have H0:=lh h0;clear h0
  go_wp2_with fail
  refine c0.mono ?_;rintro e w1 ⟨rfl,hb1⟩;have HB1:=lh (HB0.o.trans (hb1.mono HB0.o.size));have hk1:=HK0.o.below hb1 HK0.o.lt;have Mhl1:Hid (LsI (qa6 rfC) 26 8 w1 A c x.args):=lh (Mhl0.o.below (qa1 rfC) (qa0 rfC) hb1);have fb0:cl w1 g 0 (iv x.idm):=hk1.cell 0;have fb1:cl w1 g 1 (iv x.ids):=hk1.cell 1;have fb2:cl w1 g 2 (.string x.meth):=hk1.cell 2;have fb3:cl w1 g 3 (.slice A x.args.length c):=hk1.cell 3;have HK1:=lh hk1;clear hb1 hk1 c0 a0 a1 a2 a3;have c1:=Nam_any w1 x.meth
  cases h1:nmV x.meth with
  | true =>
   rw[h1] at c1;have H1:=lh h1;clear h1
   go_wp2_with fail
   refine c1.mono ?_;rintro e w2 ⟨rfl,hb2⟩;have HB2:=lh (HB1.o.trans (hb2.mono HB1.o.size));have hk2:=HK1.o.below hb2 HK1.o.lt;have Mhl2:Hid (LsI (qa6 rfC) 26 8 w2 A c x.args):=lh (Mhl1.o.below (qa1 rfC) (qa0 rfC) hb2);have fc0:cl w2 g 0 (iv x.idm):=hk2.cell 0;have fc1:cl w2 g 1 (iv x.ids):=hk2.cell 1;have fc2:cl w2 g 2 (.string x.meth):=hk2.cell 2;have fc3:cl w2 g 3 (.slice A x.args.length c):=hk2.cell 3;have HK2:=lh hk2;clear hb2 hk2 c1 fb0 fb1 fb2 fb3;have c2:=allRf_any Mhl2.o 8
   cases h2:decide ((x.args.length:Int)≤8) && x.args.all plV with
   | true =>
    rw[h2] at c2;have H2:=lh h2;clear h2
    go_wp2_with fail
    refine c2.mono ?_;rintro e w3 ⟨rfl,hb3⟩;have HB3:=lh (HB2.o.trans (hb3.mono HB2.o.size));clear hb3 c2 fc0 fc1 fc2 fc3
    go_wp2_with fail
    go_ret;refine⟨cgb ?_,HB3.o⟩;rw[HR.o]
    simp[ltV,H0.o,H1.o,H2.o]
   | false =>
    rw[h2] at c2;have H2:=lh h2;clear h2
    go_wp2_with fail
    refine c2.mono ?_;rintro e w3 ⟨rfl,hb3⟩;have HB3:=lh (HB2.o.trans (hb3.mono HB2.o.size));clear hb3 c2 fc0 fc1 fc2 fc3
    go_wp2_with fail
    go_ret;refine⟨cgb ?_,HB3.o⟩;rw[HR.o]
    simp[ltV,H0.o,H1.o,H2.o]
  | false =>
   rw[h1] at c1;have H1:=lh h1;clear h1
   go_wp2_with fail
   refine c1.mono ?_;rintro e w2 ⟨rfl,hb2⟩;have HB2:=lh (HB1.o.trans (hb2.mono HB1.o.size));clear hb2 c1 fb0 fb1 fb2 fb3
   go_wp2_with fail
   go_ret;refine⟨cgb ?_,HB2.o⟩;rw[HR.o]
   simp[ltV,H0.o,H1.o]
 | false =>
  rw[h0] at c0;have H0:=lh h0;clear h0
  go_wp2_with fail
  refine c0.mono ?_;rintro e w1 ⟨rfl,hb1⟩;have HB1:=lh (HB0.o.trans (hb1.mono HB0.o.size));clear hb1 c0 a0 a1 a2 a3
  go_wp2_with fail
  go_ret;refine⟨cgb ?_,HB1.o⟩;rw[HR.o]
  simp[ltV,H0.o]
theorem Wa_any {w:World} (x:Wa) :Calls Tryz.prog 135 #[.agg #[iv x.idm,iv x.ids,.string x.meth,iv x.key,iv x.tgt.kind,iv x.tgt.int,iv x.tgt.owner,uv x.tgt.number,iv x.tgt.idm,iv x.tgt.ids,iv x.tgt.cls,.bool x.tgt.weak]] w (qe7 w (waV x)):=by
 obtain⟨R,hR⟩:∃ R,R=waV x:=⟨_,rfl⟩
 rw[← hR];have HR:=lh hR
 obtain⟨W,hW⟩:∃ W,W=w.alloc (.cells #[iv x.idm,iv x.ids,.string x.meth,iv x.key,iv x.tgt.kind,iv x.tgt.int,iv x.tgt.owner,uv x.tgt.number,iv x.tgt.idm,iv x.tgt.ids,iv x.tgt.cls,.bool x.tgt.weak] 65):=⟨_,rfl⟩
 obtain⟨g,hg⟩:∃ g,g=w.heap.size:=⟨_,rfl⟩
 have hb0:bw w W:=by rw[hW];exact qa2 _ _
 have hk0:Bk W g 65 #[iv x.idm,iv x.ids,.string x.meth,iv x.key,iv x.tgt.kind,iv x.tgt.int,iv x.tgt.owner,uv x.tgt.number,iv x.tgt.idm,iv x.tgt.ids,iv x.tgt.cls,.bool x.tgt.weak]:=by rw[hW,hg];exact Bk.new _ _ _
 have a0:cl W g 0 (iv x.idm):=hk0.cell 0;have a1:cl W g 1 (iv x.ids):=hk0.cell 1;have a2:cl W g 2 (.string x.meth):=hk0.cell 2;have a3:cl W g 3 (iv x.key):=hk0.cell 3;have a4:cl W g 4 (iv x.tgt.kind):=hk0.cell 4;have a5:cl W g 5 (iv x.tgt.int):=hk0.cell 5;have a6:cl W g 6 (iv x.tgt.owner):=hk0.cell 6;have a7:cl W g 7 (uv x.tgt.number):=hk0.cell 7;have a8:cl W g 8 (iv x.tgt.idm):=hk0.cell 8;have a9:cl W g 9 (iv x.tgt.ids):=hk0.cell 9;have a10:cl W g 10 (iv x.tgt.cls):=hk0.cell 10;have a11:cl W g 11 (.bool x.tgt.weak):=hk0.cell 11;have HK0:=lh hk0;have HB0:=lh hb0;clear hb0 hk0 hR
 go_enter Tryz.func135,Tryz.ntmps135
 go_upto_region 1 with fail
 rw[← hW,← hg];clear hW hg;have c0:=qv9 W x.idm x.ids
 cases h0:idV x.idm x.ids with
 | true =>
  rw[h0] at c0;have H0:=lh h0;clear h0
  go_wp2_with fail
  refine c0.mono ?_;rintro e w1 ⟨rfl,hb1⟩;have HB1:=lh (HB0.o.trans (hb1.mono HB0.o.size));have hk1:=HK0.o.below hb1 HK0.o.lt;have fb0:cl w1 g 0 (iv x.idm):=hk1.cell 0;have fb1:cl w1 g 1 (iv x.ids):=hk1.cell 1;have fb2:cl w1 g 2 (.string x.meth):=hk1.cell 2;have fb3:cl w1 g 3 (iv x.key):=hk1.cell 3;have fb4:cl w1 g 4 (iv x.tgt.kind):=hk1.cell 4;have fb5:cl w1 g 5 (iv x.tgt.int):=hk1.cell 5;have fb6:cl w1 g 6 (iv x.tgt.owner):=hk1.cell 6;have fb7:cl w1 g 7 (uv x.tgt.number):=hk1.cell 7;have fb8:cl w1 g 8 (iv x.tgt.idm):=hk1.cell 8;have fb9:cl w1 g 9 (iv x.tgt.ids):=hk1.cell 9;have fb10:cl w1 g 10 (iv x.tgt.cls):=hk1.cell 10;have fb11:cl w1 g 11 (.bool x.tgt.weak):=hk1.cell 11;have HK1:=lh hk1;clear hb1 hk1 c0 a0 a1 a2 a3 a4 a5 a6 a7 a8 a9 a10 a11;have c1:=Nam_any w1 x.meth
  cases h1:nmV x.meth with
  | true =>
   rw[h1] at c1;have H1:=lh h1;clear h1
   go_wp2_with fail
   refine c1.mono ?_;rintro e w2 ⟨rfl,hb2⟩;have HB2:=lh (HB1.o.trans (hb2.mono HB1.o.size));have hk2:=HK1.o.below hb2 HK1.o.lt;have fc0:cl w2 g 0 (iv x.idm):=hk2.cell 0;have fc1:cl w2 g 1 (iv x.ids):=hk2.cell 1;have fc2:cl w2 g 2 (.string x.meth):=hk2.cell 2;have fc3:cl w2 g 3 (iv x.key):=hk2.cell 3;have fc4:cl w2 g 4 (iv x.tgt.kind):=hk2.cell 4;have fc5:cl w2 g 5 (iv x.tgt.int):=hk2.cell 5;have fc6:cl w2 g 6 (iv x.tgt.owner):=hk2.cell 6;have fc7:cl w2 g 7 (uv x.tgt.number):=hk2.cell 7;have fc8:cl w2 g 8 (iv x.tgt.idm):=hk2.cell 8;have fc9:cl w2 g 9 (iv x.tgt.ids):=hk2.cell 9;have fc10:cl w2 g 10 (iv x.tgt.cls):=hk2.cell 10;have fc11:cl w2 g 11 (.bool x.tgt.weak):=hk2.cell 11;have HK2:=lh hk2;clear hb2 hk2 c1 fb0 fb1 fb2 fb3 fb4 fb5 fb6 fb7 fb8 fb9 fb10 fb11;have c2:=Intg_any w2 x.key
   cases h2:intV x.key with
   | true =>
    rw[h2] at c2;have H2:=lh h2;clear h2
    go_wp2_with fail
    refine c2.mono ?_;rintro e w3 ⟨rfl,hb3⟩;have HB3:=lh (HB2.o.trans (hb3.mono HB2.o.size));have hk3:=HK2.o.below hb3 HK2.o.lt;have fd0:cl w3 g 0 (iv x.idm):=hk3.cell 0;have fd1:cl w3 g 1 (iv x.ids):=hk3.cell 1;have fd2:cl w3 g 2 (.string x.meth):=hk3.cell 2;have fd3:cl w3 g 3 (iv x.key):=hk3.cell 3;have fd4:cl w3 g 4 (iv x.tgt.kind):=hk3.cell 4;have fd5:cl w3 g 5 (iv x.tgt.int):=hk3.cell 5;have fd6:cl w3 g 6 (iv x.tgt.owner):=hk3.cell 6;have fd7:cl w3 g 7 (uv x.tgt.number):=hk3.cell 7;have fd8:cl w3 g 8 (iv x.tgt.idm):=hk3.cell 8;have fd9:cl w3 g 9 (iv x.tgt.ids):=hk3.cell 9;have fd10:cl w3 g 10 (iv x.tgt.cls):=hk3.cell 10;have fd11:cl w3 g 11 (.bool x.tgt.weak):=hk3.cell 11;have HK3:=lh hk3;clear hb3 hk3 c2 fc0 fc1 fc2 fc3 fc4 fc5 fc6 fc7 fc8 fc9 fc10 fc11;have c3:=Wk_any (w:=w3) x.tgt
    cases h3:wkV x.tgt with
    | true =>
     rw[h3] at c3;have H3:=lh h3;clear h3
     go_wp2_with fail
     refine c3.mono ?_;rintro e w4 ⟨rfl,hb4⟩;have HB4:=lh (HB3.o.trans (hb4.mono HB3.o.size));clear hb4 c3 fd0 fd1 fd2 fd3 fd4 fd5 fd6 fd7 fd8 fd9 fd10 fd11
     go_wp2_with fail
     go_ret;refine⟨cgb ?_,HB4.o⟩;rw[HR.o]
     simp[waV,H0.o,H1.o,H2.o,H3.o]
    | false =>
     rw[h3] at c3;have H3:=lh h3;clear h3
     go_wp2_with fail
     refine c3.mono ?_;rintro e w4 ⟨rfl,hb4⟩;have HB4:=lh (HB3.o.trans (hb4.mono HB3.o.size));clear hb4 c3 fd0 fd1 fd2 fd3 fd4 fd5 fd6 fd7 fd8 fd9 fd10 fd11
     go_wp2_with fail
     go_ret;refine⟨cgb ?_,HB4.o⟩;rw[HR.o]
     simp[waV,H0.o,H1.o,H2.o,H3.o]
   | false =>
    rw[h2] at c2;have H2:=lh h2;clear h2
    go_wp2_with fail
    refine c2.mono ?_;rintro e w3 ⟨rfl,hb3⟩;have HB3:=lh (HB2.o.trans (hb3.mono HB2.o.size));clear hb3 c2 fc0 fc1 fc2 fc3 fc4 fc5 fc6 fc7 fc8 fc9 fc10 fc11
    go_wp2_with fail
    go_ret;refine⟨cgb ?_,HB3.o⟩;rw[HR.o]
    simp[waV,H0.o,H1.o,H2.o]
  | false =>
   rw[h1] at c1;have H1:=lh h1;clear h1
   go_wp2_with fail
   refine c1.mono ?_;rintro e w2 ⟨rfl,hb2⟩;have HB2:=lh (HB1.o.trans (hb2.mono HB1.o.size));clear hb2 c1 fb0 fb1 fb2 fb3 fb4 fb5 fb6 fb7 fb8 fb9 fb10 fb11
   go_wp2_with fail
   go_ret;refine⟨cgb ?_,HB2.o⟩;rw[HR.o]
   simp[waV,H0.o,H1.o]
 | false =>
  rw[h0] at c0;have H0:=lh h0;clear h0
  go_wp2_with fail
  refine c0.mono ?_;rintro e w1 ⟨rfl,hb1⟩;have HB1:=lh (HB0.o.trans (hb1.mono HB0.o.size));clear hb1 c0 a0 a1 a2 a3 a4 a5 a6 a7 a8 a9 a10 a11
  go_wp2_with fail
  go_ret;refine⟨cgb ?_,HB1.o⟩;rw[HR.o]
  simp[waV,H0.o]
theorem notLt_any {w:World} (x:Lt) {A1:Option Addr} {c1:Nat} (hl1:LsI (qa6 rfC) 26 8 w A1 c1 x.args) {g:Nat} (hg:Bk w g 119 #[.func (.func 74) #[] #[]]):Calls Tryz.prog 168 #[.agg #[iv x.idm,iv x.ids,.string x.meth,.slice A1 x.args.length c1],pq g 0] w (qe7 w (!ltV x)):=by
 obtain⟨W,hW⟩:∃ W,W=w.alloc (.cells #[iv x.idm,iv x.ids,.string x.meth,.slice A1 x.args.length c1] 29):=⟨_,rfl⟩
 obtain⟨k,hk⟩:∃ k,k=w.heap.size:=⟨_,rfl⟩
 have hb0:bw w W:=by rw[hW];exact qa2 _ _
 have hk0:Bk W k 29 #[iv x.idm,iv x.ids,.string x.meth,.slice A1 x.args.length c1]:=by rw[hW,hk];exact Bk.new _ _ _
 have a0:cl W k 0 (iv x.idm):=hk0.cell 0;have a1:cl W k 1 (iv x.ids):=hk0.cell 1;have a2:cl W k 2 (.string x.meth):=hk0.cell 2;have a3:cl W k 3 (.slice A1 x.args.length c1):=hk0.cell 3;have g0:cl W g 0 (.func (.func 74) #[] #[]):=(hg.below hb0 hg.lt).cell 0;have cF:=Lt_any (w:=W) x (hl1.below (qa1 rfC) (qa0 rfC) hb0);have HB0:=lh hb0
 obtain⟨B,hB⟩:∃ B,B=ltV x:=⟨_,rfl⟩
 rw[← hB] at cF ⊢;clear hb0 hk0 hg hB hl1
 go_enter Tryz.func168,Tryz.ntmps168
 go_upto_region 1 with fail
 rw[← hW,← hk];clear hW hk
 go_wp2_with fail
 refine cF.mono ?_;rintro e w1 ⟨rfl,hb1⟩;have HB1:=lh (HB0.o.trans (hb1.mono HB0.o.size));clear hb1 cF g0 a0 a1 a2 a3
 go_wp2_with fail
 go_ret;exact⟨rfl,HB1.o⟩
theorem idxLt_any {w:World} {A:Option Addr} {c:Nat} {l:List Lt} (hL:LsI (LtR) 29 4 w A c l) {g:Nat} (hg:Bk w g 119 #[.func (.func 74) #[] #[]]):Calls Tryz.prog 184 #[.slice A l.length c,.func (.func 168) #[] #[pq g 0]] w (qv8 (l.all ltV=false) w):=by
 obtain⟨n,hn⟩:∃ n,n=l.length:=⟨_,rfl⟩
 have hlen:n≤140737488351232:=by rw[hn];exact hL.le.2
 have hcap:n≤c:=by rw[hn];exact hL.le.1
 rw[← hn];have HS:=lh (And.intro hL (And.intro hn hg));clear hL hn hg
 go_enter Tryz.func184,Tryz.ntmps184
 go_wp2_with fail
 go_loopg [8] (n) (fun q i wr=>∃ (k:Nat),i=iv k∧k+q=n∧(∀ j x,j < k→l[j]?=some x→ltV x=true)∧bw w wr)
 case atStart=>exact⟨0,rfl,by omega,fun j x hj=>by omega,Below.refl _ _⟩
 case round =>
  obtain⟨k,rfl,hkq,hall,hB⟩:=hrel;have HALL:=lh hall;have HB:=lh hB;have hsz:=hB.size;clear hall hB
  cases gk with
  | zero =>
   obtain rfl:k=n:=hkq
   go_wp2_with fail
   go_ret;refine⟨⟨_,rfl,⟨fun h=>absurd h (by decide),?_⟩⟩,HB.o⟩;rw[all_no];rintro⟨x,hx,hf⟩;obtain⟨j,hj⟩:=List.mem_iff_getElem?.1 hx;have:=HALL.o j x (by have:=(List.getElem?_eq_some_iff.1 hj).1;rw[← HS.o.2.1] at this;exact this) hj;rw[hf] at this;cases this
  | succ q =>
   have hkn:k < n:=by omega
   have hkc:k < c:=by omega
   obtain⟨wo,rfl⟩:∃ wo:World,wo=wr:=⟨_,rfl⟩
   obtain⟨x,hx⟩:∃ x,l[k]?=some x:=⟨_,List.getElem?_eq_getElem (by rw[← HS.o.2.1];exact hkn)⟩
   obtain⟨cb,co,r,rfl,_,hr,hcells⟩:=(HS.o.1.below (qg1) (ltR_rk) HB.o).get hx;obtain⟨A1,c1,rfl,hl1⟩:=hr;have hx0:cl wo cb (co+k*4) (iv x.idm):=hcells 0 _ rfl;have hx1:cl wo cb (co+k*4+1) (iv x.ids):=hcells 1 _ rfl;have hx2:cl wo cb (co+k*4+2) (.string x.meth):=hcells 2 _ rfl;have hx3:cl wo cb (co+k*4+3) (.slice A1 x.args.length c1):=hcells 3 _ rfl;have HX:=lh hx;have cO:=notLt_any (w:=wo) x hl1 (HS.o.2.2.below HB.o HS.o.2.2.lt);clear hx hcells hl1;have hw1:IntKind.i64.wrap (k:Int)=(k:Int):=IntWalk.i64_in _ (by omega)
   cases hf:ltV x with
   | false =>
    rw[hf] at cO;have HF:=lh hf;clear hf
    go_wp2_with fail
    refine cO.mono ?_;rintro e w1 ⟨rfl,hb⟩;have HB1:=lh (HB.o.trans (hb.mono hsz));clear hb cO hx0 hx1 hx2 hx3
    go_wp2_with fail
    go_ret;exact⟨⟨_,rfl,⟨fun _=>all_no.2 ⟨_,List.mem_of_getElem? HX.o,HF.o⟩,fun _=>by omega⟩⟩,HB1.o⟩
   | true =>
    rw[hf] at cO;have HF:=lh hf;clear hf
    go_wp2_with fail
    refine cO.mono ?_;rintro e w1 ⟨rfl,hb⟩;have HB1:=lh (HB.o.trans (hb.mono hsz));clear hb cO hx0 hx1 hx2 hx3
    go_wp2_with fail
    go_roundg q
    case measure=>omega
    case rel =>
     refine⟨k+1,by go_num,by omega,fun j x hj hx=>?_,HB1.o⟩
     by_cases h:j < k
     ·exact HALL.o j x h hx
     ·obtain rfl:j=k:=by omega
      have h2:=HX.o;rw[hx] at h2;cases h2;exact HF.o
theorem hasLt_any {w:World} {A:Option Addr} {c:Nat} {l:List Lt} (hL:LsI (LtR) 29 4 w A c l) {g:Nat} (hg:Bk w g 119 #[.func (.func 74) #[] #[]]):Calls Tryz.prog 167 #[.slice A l.length c,.func (.func 168) #[] #[pq g 0]] w (qe7 w (!l.all ltV)):=by
 have cI:=idxLt_any hL hg;clear hL hg
 obtain⟨n,hn⟩:∃ n,n=l.length:=⟨_,rfl⟩
 rw[← hn] at cI ⊢
 obtain⟨B,hB⟩:∃ B,B=l.all ltV:=⟨_,rfl⟩
 rw[← hB] at cI ⊢;clear hn hB
 go_enter Tryz.func167,Tryz.ntmps167
 go_wp2_with fail
 refine cI.mono ?_;rintro e w1 ⟨⟨i,rfl,hi⟩,hb⟩;have HI:=lh hi;have HB:=lh hb;clear hi hb cI
 go_wp2
 go_ret;refine⟨cgb ?_,HB.o⟩
 cases B with
 | false=>exact decide_eq_true (HI.o.2 rfl)
 | true=>exact decide_eq_false fun h=>by have:=HI.o.1 h;cases this
theorem allLt_any {w:World} {A:Option Addr} {c:Nat} {l:List Lt} (hL:LsI (LtR) 29 4 w A c l) (m:Int):Calls Tryz.prog 133 #[.slice A l.length c,iv m,.func (.func 74) #[] #[]] w (qe7 w (decide ((l.length:Int)≤m) && l.all ltV)):=by
 obtain⟨W,hW⟩:∃ W,W=w.alloc (.cells #[.func (.func 74) #[] #[]] 119):=⟨_,rfl⟩
 obtain⟨k,hk⟩:∃ k,k=w.heap.size:=⟨_,rfl⟩
 have hb0:bw w W:=by rw[hW];exact qa2 _ _
 have hk0:Bk W k 119 #[.func (.func 74) #[] #[]]:=by rw[hW,hk];exact Bk.new _ _ _
 have cH:=hasLt_any (hL.below (qg1) (ltR_rk) hb0) hk0;have hlen:=hL.le.2;have HB0:=lh hb0
 obtain⟨n,hn⟩:∃ n,n=l.length:=⟨_,rfl⟩
 rw[← hn] at cH hlen ⊢
 obtain⟨B,hB⟩:∃ B,B=l.all ltV:=⟨_,rfl⟩
 rw[← hB] at cH ⊢;clear hn hB hb0 hk0 hL
 go_enter Tryz.func133,Tryz.ntmps133
 go_upto_region 1 with fail
 rw[← hW,← hk];clear hW hk
 cases h0:decide ((n:Int)≤m) with
 | true =>
  go_wp2_with fail
  refine cH.mono ?_;rintro e w1 ⟨rfl,hb1⟩;have HB1:=lh (HB0.o.trans (hb1.mono HB0.o.size));clear hb1 cH
  go_wp2_with fail
  go_ret;exact⟨by rw[h0];cases B <;> rfl,HB1.o⟩
 | false =>
  clear cH
  go_wp2_with fail
  go_ret;exact⟨by rw[h0];rfl,HB0.o⟩
theorem notWa_any {w:World} (x:Wa)  {g:Nat} (hg:Bk w g 157 #[.func (.func 135) #[] #[]]):Calls Tryz.prog 170 #[.agg #[iv x.idm,iv x.ids,.string x.meth,iv x.key,iv x.tgt.kind,iv x.tgt.int,iv x.tgt.owner,uv x.tgt.number,iv x.tgt.idm,iv x.tgt.ids,iv x.tgt.cls,.bool x.tgt.weak],pq g 0] w (qe7 w (!waV x)):=by
 obtain⟨W,hW⟩:∃ W,W=w.alloc (.cells #[iv x.idm,iv x.ids,.string x.meth,iv x.key,iv x.tgt.kind,iv x.tgt.int,iv x.tgt.owner,uv x.tgt.number,iv x.tgt.idm,iv x.tgt.ids,iv x.tgt.cls,.bool x.tgt.weak] 65):=⟨_,rfl⟩
 obtain⟨k,hk⟩:∃ k,k=w.heap.size:=⟨_,rfl⟩
 have hb0:bw w W:=by rw[hW];exact qa2 _ _
 have hk0:Bk W k 65 #[iv x.idm,iv x.ids,.string x.meth,iv x.key,iv x.tgt.kind,iv x.tgt.int,iv x.tgt.owner,uv x.tgt.number,iv x.tgt.idm,iv x.tgt.ids,iv x.tgt.cls,.bool x.tgt.weak]:=by rw[hW,hk];exact Bk.new _ _ _
 have a0:cl W k 0 (iv x.idm):=hk0.cell 0;have a1:cl W k 1 (iv x.ids):=hk0.cell 1;have a2:cl W k 2 (.string x.meth):=hk0.cell 2;have a3:cl W k 3 (iv x.key):=hk0.cell 3;have a4:cl W k 4 (iv x.tgt.kind):=hk0.cell 4;have a5:cl W k 5 (iv x.tgt.int):=hk0.cell 5;have a6:cl W k 6 (iv x.tgt.owner):=hk0.cell 6;have a7:cl W k 7 (uv x.tgt.number):=hk0.cell 7;have a8:cl W k 8 (iv x.tgt.idm):=hk0.cell 8;have a9:cl W k 9 (iv x.tgt.ids):=hk0.cell 9;have a10:cl W k 10 (iv x.tgt.cls):=hk0.cell 10;have a11:cl W k 11 (.bool x.tgt.weak):=hk0.cell 11;have g0:cl W g 0 (.func (.func 135) #[] #[]):=(hg.below hb0 hg.lt).cell 0;have cF:=Wa_any (w:=W) x;have HB0:=lh hb0
 obtain⟨B,hB⟩:∃ B,B=waV x:=⟨_,rfl⟩
 rw[← hB] at cF ⊢;clear hb0 hk0 hg hB
 go_enter Tryz.func170,Tryz.ntmps170
 go_upto_region 1 with fail
 rw[← hW,← hk];clear hW hk
 go_wp2_with fail
 refine cF.mono ?_;rintro e w1 ⟨rfl,hb1⟩;have HB1:=lh (HB0.o.trans (hb1.mono HB0.o.size));clear hb1 cF g0 a0 a1 a2 a3 a4 a5 a6 a7 a8 a9 a10 a11
 go_wp2_with fail
 go_ret;exact⟨rfl,HB1.o⟩
theorem idxWa_any {w:World} {A:Option Addr} {c:Nat} {l:List Wa} (hL:LsI (qa6 waC) 65 12 w A c l) {g:Nat} (hg:Bk w g 157 #[.func (.func 135) #[] #[]]):Calls Tryz.prog 185 #[.slice A l.length c,.func (.func 170) #[] #[pq g 0]] w (qv8 (l.all waV=false) w):=by
 obtain⟨n,hn⟩:∃ n,n=l.length:=⟨_,rfl⟩
 have hlen:n≤140737488351232:=by rw[hn];exact hL.le.2
 have hcap:n≤c:=by rw[hn];exact hL.le.1
 rw[← hn];have HS:=lh (And.intro hL (And.intro hn hg));clear hL hn hg
 go_enter Tryz.func185,Tryz.ntmps185
 go_wp2_with fail
 go_loopg [8] (n) (fun q i wr=>∃ (k:Nat),i=iv k∧k+q=n∧(∀ j x,j < k→l[j]?=some x→waV x=true)∧bw w wr)
 case atStart=>exact⟨0,rfl,by omega,fun j x hj=>by omega,Below.refl _ _⟩
 case round =>
  obtain⟨k,rfl,hkq,hall,hB⟩:=hrel;have HALL:=lh hall;have HB:=lh hB;have hsz:=hB.size;clear hall hB
  cases gk with
  | zero =>
   obtain rfl:k=n:=hkq
   go_wp2_with fail
   go_ret;refine⟨⟨_,rfl,⟨fun h=>absurd h (by decide),?_⟩⟩,HB.o⟩;rw[all_no];rintro⟨x,hx,hf⟩;obtain⟨j,hj⟩:=List.mem_iff_getElem?.1 hx;have:=HALL.o j x (by have:=(List.getElem?_eq_some_iff.1 hj).1;rw[← HS.o.2.1] at this;exact this) hj;rw[hf] at this;cases this
  | succ q =>
   have hkn:k < n:=by omega
   have hkc:k < c:=by omega
   obtain⟨wo,rfl⟩:∃ wo:World,wo=wr:=⟨_,rfl⟩
   obtain⟨x,hx⟩:∃ x,l[k]?=some x:=⟨_,List.getElem?_eq_getElem (by rw[← HS.o.2.1];exact hkn)⟩
   obtain⟨cb,co,r,rfl,_,hr,hcells⟩:=(HS.o.1.below (qa1 waC) (qa0 waC) HB.o).get hx;unfold qa6 at hr;subst hr;have hx0:cl wo cb (co+k*12) (iv x.idm):=hcells 0 _ rfl;have hx1:cl wo cb (co+k*12+1) (iv x.ids):=hcells 1 _ rfl;have hx2:cl wo cb (co+k*12+2) (.string x.meth):=hcells 2 _ rfl;have hx3:cl wo cb (co+k*12+3) (iv x.key):=hcells 3 _ rfl;have hx4:cl wo cb (co+k*12+4) (iv x.tgt.kind):=hcells 4 _ rfl;have hx5:cl wo cb (co+k*12+5) (iv x.tgt.int):=hcells 5 _ rfl;have hx6:cl wo cb (co+k*12+6) (iv x.tgt.owner):=hcells 6 _ rfl;have hx7:cl wo cb (co+k*12+7) (uv x.tgt.number):=hcells 7 _ rfl;have hx8:cl wo cb (co+k*12+8) (iv x.tgt.idm):=hcells 8 _ rfl;have hx9:cl wo cb (co+k*12+9) (iv x.tgt.ids):=hcells 9 _ rfl;have hx10:cl wo cb (co+k*12+10) (iv x.tgt.cls):=hcells 10 _ rfl;have hx11:cl wo cb (co+k*12+11) (.bool x.tgt.weak):=hcells 11 _ rfl;have HX:=lh hx;have cO:=notWa_any (w:=wo) x (HS.o.2.2.below HB.o HS.o.2.2.lt);clear hx hcells;have hw1:IntKind.i64.wrap (k:Int)=(k:Int):=IntWalk.i64_in _ (by omega)
   cases hf:waV x with
   | false =>
    rw[hf] at cO;have HF:=lh hf;clear hf
    go_wp2_with fail
    refine cO.mono ?_;rintro e w1 ⟨rfl,hb⟩;have HB1:=lh (HB.o.trans (hb.mono hsz));clear hb cO hx0 hx1 hx2 hx3 hx4 hx5 hx6 hx7 hx8 hx9 hx10 hx11
    go_wp2_with fail
    go_ret;exact⟨⟨_,rfl,⟨fun _=>all_no.2 ⟨_,List.mem_of_getElem? HX.o,HF.o⟩,fun _=>by omega⟩⟩,HB1.o⟩
   | true =>
    rw[hf] at cO;have HF:=lh hf;clear hf
    go_wp2_with fail
    refine cO.mono ?_;rintro e w1 ⟨rfl,hb⟩;have HB1:=lh (HB.o.trans (hb.mono hsz));clear hb cO hx0 hx1 hx2 hx3 hx4 hx5 hx6 hx7 hx8 hx9 hx10 hx11
    go_wp2_with fail
    go_roundg q
    case measure=>omega
    case rel =>
     refine⟨k+1,by go_num,by omega,fun j x hj hx=>?_,HB1.o⟩
     by_cases h:j < k
     ·exact HALL.o j x h hx
     ·obtain rfl:j=k:=by omega
      have h2:=HX.o;rw[hx] at h2;cases h2;exact HF.o
theorem hasWa_any {w:World} {A:Option Addr} {c:Nat} {l:List Wa} (hL:LsI (qa6 waC) 65 12 w A c l) {g:Nat} (hg:Bk w g 157 #[.func (.func 135) #[] #[]]):Calls Tryz.prog 169 #[.slice A l.length c,.func (.func 170) #[] #[pq g 0]] w (qe7 w (!l.all waV)):=by
 have cI:=idxWa_any hL hg;clear hL hg
 obtain⟨n,hn⟩:∃ n,n=l.length:=⟨_,rfl⟩
 rw[← hn] at cI ⊢
 obtain⟨B,hB⟩:∃ B,B=l.all waV:=⟨_,rfl⟩
 rw[← hB] at cI ⊢;clear hn hB
 go_enter Tryz.func169,Tryz.ntmps169
 go_wp2_with fail
 refine cI.mono ?_;rintro e w1 ⟨⟨i,rfl,hi⟩,hb⟩;have HI:=lh hi;have HB:=lh hb;clear hi hb cI
 go_wp2
 go_ret;refine⟨cgb ?_,HB.o⟩
 cases B with
 | false=>exact decide_eq_true (HI.o.2 rfl)
 | true=>exact decide_eq_false fun h=>by have:=HI.o.1 h;cases this
theorem allWa_any {w:World} {A:Option Addr} {c:Nat} {l:List Wa} (hL:LsI (qa6 waC) 65 12 w A c l) (m:Int):Calls Tryz.prog 134 #[.slice A l.length c,iv m,.func (.func 135) #[] #[]] w (qe7 w (decide ((l.length:Int)≤m) && l.all waV)):=by
 obtain⟨W,hW⟩:∃ W,W=w.alloc (.cells #[.func (.func 135) #[] #[]] 157):=⟨_,rfl⟩
 obtain⟨k,hk⟩:∃ k,k=w.heap.size:=⟨_,rfl⟩
 have hb0:bw w W:=by rw[hW];exact qa2 _ _
 have hk0:Bk W k 157 #[.func (.func 135) #[] #[]]:=by rw[hW,hk];exact Bk.new _ _ _
 have cH:=hasWa_any (hL.below (qa1 waC) (qa0 waC) hb0) hk0;have hlen:=hL.le.2;have HB0:=lh hb0
 obtain⟨n,hn⟩:∃ n,n=l.length:=⟨_,rfl⟩
 rw[← hn] at cH hlen ⊢
 obtain⟨B,hB⟩:∃ B,B=l.all waV:=⟨_,rfl⟩
 rw[← hB] at cH ⊢;clear hn hB hb0 hk0 hL
 go_enter Tryz.func134,Tryz.ntmps134
 go_upto_region 1 with fail
 rw[← hW,← hk];clear hW hk
 cases h0:decide ((n:Int)≤m) with
 | true =>
  go_wp2_with fail
  refine cH.mono ?_;rintro e w1 ⟨rfl,hb1⟩;have HB1:=lh (HB0.o.trans (hb1.mono HB0.o.size));clear hb1 cH
  go_wp2_with fail
  go_ret;exact⟨by rw[h0];cases B <;> rfl,HB1.o⟩
 | false =>
  clear cH
  go_wp2_with fail
  go_ret;exact⟨by rw[h0];rfl,HB0.o⟩
end
end Go.Proofs.YtmbnlccafcfbeaaGreatDoor
