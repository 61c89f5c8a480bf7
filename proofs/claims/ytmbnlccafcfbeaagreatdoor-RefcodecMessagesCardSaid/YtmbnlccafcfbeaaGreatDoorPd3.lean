/- Parts of the proof: Wire7, SepF, SepC, SepD. -/
import Derived.Test.YtmbnlccafcfbeaaGreatDoorPdA
import Derived.Test.YtmbnlccafcfbeaaGreatDoorPd0
import Derived.Test.YtmbnlccafcfbeaaGreatDoorPd1
import Derived.Test.YtmbnlccafcfbeaaGreatDoorPd2
set_option linter.unusedVariables false
set_option linter.unusedSimpArgs false
set_option linter.unusedSectionVars false
set_option maxRecDepth 100000
namespace Go.Proofs.YtmbnlccafcfbeaaGreatDoor
section
open Go.RowKit
attribute [local go_sem] Oper.semAt_some
theorem enter_count1 (args:Array Value) (w:World):(callFunc 176 args).run Tryz.prog w=.ok (.enter 176 args) w:=by go_simp
section
variable {w:World} {g bb a p q c:Nat} {A:Option Addr} {b:List Int} {n most:Int}
theorem Count1_big (ha:Bk w a 3 #[.int .i64 most]) (hq:Bk w q 22 #[.int .u64 n]) (h0:0≤most) (h1:most≤4294967296) (hn:most < n):Calls Tryz.prog 176 #[.pointer (some ⟨a,0,none⟩),.pointer (some ⟨q,0,none⟩),.pointer (some ⟨p,0,none⟩)] w fun e w1=>e=.returned (.int .i64 8)∧Below w.heap.size w w1:=by
 have a0:w.cell? ⟨a,0,none⟩=some (.int .i64 most):=ha.cell 0
 have q0:w.cell? ⟨q,0,none⟩=some (.int .u64 n):=hq.cell 0
 have hw:IntKind.u64.wrap most=most:=by rw[IntKind.wrap_u64];omega
 clear ha hq
 go_enter Tryz.func176,Tryz.ntmps176
 go_wp2_with fail
 go_ret
 exact⟨rfl,Below.refl _ _⟩
theorem Count1_bad (h:RdR w g bb ⟨b,0⟩ A c) (ha:Bk w a 3 #[.int .i64 most]) (hq:Bk w q 22 #[.int .u64 n]) (hp:Bk w p 79 #[.pointer (some ⟨g,0,none⟩)]) (h0:0≤most) (h1:most≤4294967296) (hn:n≤most) (hl:(b.length:Int) < n):Calls Tryz.prog 176 #[.pointer (some ⟨a,0,none⟩),.pointer (some ⟨q,0,none⟩),.pointer (some ⟨p,0,none⟩)] w fun e w1=>e=.returned (.int .i64 11)∧Below w.heap.size w w1:=by
 have a0:w.cell? ⟨a,0,none⟩=some (.int .i64 most):=ha.cell 0
 have q0:w.cell? ⟨q,0,none⟩=some (.int .u64 n):=hq.cell 0
 have p0:w.cell? ⟨p,0,none⟩=some (.pointer (some ⟨g,0,none⟩)):=hp.cell 0
 have r0:w.cell? ⟨g,0,none⟩=some (.slice A b.length c):=h.bk.cell 0
 have hw:IntKind.u64.wrap most=most:=by rw[IntKind.wrap_u64];omega
 have hw2:IntKind.u64.wrap (b.length:Int)=(b.length:Int):=by rw[IntKind.wrap_u64];omega
 have d2:decide (n > (b.length:Int))=true:=decide_eq_true (by omega)
 have HB:Hid (∀ k,Below w.heap.size w (w.drewN k)):=lh fun k=>below_drewN (Below.refl _ _) k
 clear ha hq hp h
 go_enter Tryz.func176,Tryz.ntmps176
 go_upto_region 3 with fail
 go_quiet (fail)
 go_wp2_with fail
 go_ret
 exact⟨rfl,HB.out _⟩
theorem Count1_ok (h:RdR w g bb ⟨b,0⟩ A c) (ha:Bk w a 3 #[.int .i64 most]) (hq:Bk w q 22 #[.int .u64 n]) (hp:Bk w p 79 #[.pointer (some ⟨g,0,none⟩)]) (h0:0≤most) (h1:most≤4294967296) (hn:n≤most) (hl:n≤(b.length:Int)):Calls Tryz.prog 176 #[.pointer (some ⟨a,0,none⟩),.pointer (some ⟨q,0,none⟩),.pointer (some ⟨p,0,none⟩)] w fun e w1=>e=.returned (.int .i64 0)∧RdX w1 g bb ⟨b,0⟩∧Below w.heap.size w w1:=by
 have a0:w.cell? ⟨a,0,none⟩=some (.int .i64 most):=ha.cell 0
 have q0:w.cell? ⟨q,0,none⟩=some (.int .u64 n):=hq.cell 0
 have p0:w.cell? ⟨p,0,none⟩=some (.pointer (some ⟨g,0,none⟩)):=hp.cell 0
 have r0:w.cell? ⟨g,0,none⟩=some (.slice A b.length c):=h.bk.cell 0
 have hw:IntKind.u64.wrap most=most:=by rw[IntKind.wrap_u64];omega
 have hcm:=h.cm
 have hcp:=h.cap
 dsimp only at hcp
 have hw2:IntKind.u64.wrap (b.length:Int)=(b.length:Int):=by rw[IntKind.wrap_u64];omega
 have d2:decide (n > (b.length:Int))=false:=decide_eq_false (by omega)
 have HB:Hid (∀ k,RdX (w.drewN k) g bb ⟨b,0⟩∧Below w.heap.size w (w.drewN k)):=lh fun k=>⟨⟨A,c,h.below (below_drewN (Below.refl _ _) k)⟩,below_drewN (Below.refl _ _) k⟩
 clear ha hq hp h
 go_enter Tryz.func176,Tryz.ntmps176
 go_upto_region 3 with fail
 go_quiet (fail)
 go_wp2_with fail
 go_ret
 exact⟨rfl,HB.out _⟩
end
section
variable {w:World} {g bb:Nat} {r:Rd} {most:Int}
set_option maxHeartbeats 4000000 in
theorem Count_any (h:RdX w g bb r) (hbb:bb < w.heap.size) (h0:0≤most) (h1:most≤4294967296):Calls Tryz.prog 159 #[.pointer (some ⟨g,0,none⟩),.int .i64 most] w (RdP w g bb (.int .i64 (r.count most).1) (r.count most).2):=by
 obtain⟨w2,hw2⟩:∃ w2,w2=(w.alloc (.cells #[.pointer (some ⟨g,0,none⟩)] 79)).alloc (.cells #[.int .i64 most] 3):=⟨_,rfl⟩
 have hb2:Below w.heap.size w w2:=by rw[hw2];exact((Below.refl _ _).alloc (Nat.le_refl _) _).alloc (by simp) _
 have hsz:w2.heap.size=w.heap.size+2:=by rw[hw2];simp
 have hp:Bk w2 w.heap.size 79 #[.pointer (some ⟨g,0,none⟩)]:=by rw[hw2];exact Bk.alloc (Bk.new _ _ _) _
 have ha:Bk w2 (w.heap.size+1) 3 #[.int .i64 most]:=by rw[hw2];exact Bk.here _ _ _ (by simp)
 have cU:=Uint_any (h.below hb2) (by omega)
 have hrg:=Rd.u_rg h.b8
 have HCT:Hid (r.count most=if r.u.2.e≠0 then (0,r.u.2) else if most < 0 ∨ most < r.u.1 then (0,Rd.bad 8) else if (r.u.2.b.length:Int) < r.u.1 then (0,Rd.bad 11) else r.u):=lh rfl
 have HG:Hid (w.heap.size≠g∧w.heap.size+1≠g):=lh (by
  obtain⟨A,c,h⟩:=h
  have:=h.bk.lt
  omega)
 obtain⟨u,hu⟩:∃ u,u=r.u:=⟨_,rfl⟩
 rw[← hu] at cU hrg HCT
 obtain⟨n,⟨b,e⟩⟩:=u
 dsimp only at cU hrg HCT
 have p0:w2.cell? ⟨w.heap.size,0,none⟩=some (.pointer (some ⟨g,0,none⟩)):=hp.cell 0
 have HP:=lh (And.intro hp ha)
 have HB2:=lh (And.intro hb2 hsz)
 have HRG:=lh hrg
 clear h hu hp ha hb2 hsz hrg
 go_enter Tryz.func159,Tryz.ntmps159
 go_upto_region 1 with fail
 rw[← hw2]
 clear hw2
 go_wp2_with fail
 refine cU.mono ?_
 rintro e' w3 ⟨rfl,hx,hk⟩
 obtain⟨w4,hw4⟩:∃ w4,w4=w3.alloc (.cells #[.int .u64 n] 22):=⟨_,rfl⟩
 obtain⟨q,hq⟩:∃ q,q=w3.heap.size:=⟨_,rfl⟩
 have hb4:Below w3.heap.size w3 w4:=by rw[hw4];exact(Below.refl _ _).alloc (Nat.le_refl _) _
 have hqk:Bk w4 q 22 #[.int .u64 n]:=by rw[hw4,hq];exact Bk.new _ _ _
 have hp3:=HP.out.1.kp hk HG.out.1
 have ha3:=HP.out.2.kp hk HG.out.2
 have hp4:=hp3.below hb4 hp3.lt
 have ha4:=ha3.below hb4 ha3.lt
 have HX4:=hx.below hb4
 have HK4:Hid (Kp (fun k=>k=g) w w4):=lh ((Kp.of_below HB2.out.1).trans (hk.trans (Kp.of_below (S:=fun k=>k=g) hb4) fun _ _ h=>h) fun _ _ h=>h)
 clear cU hx hk p0 hp3 ha3 hb4
 go_upto_region 2 with fail
 rw[← hw4,← hq]
 have p4:w4.cell? ⟨w.heap.size,0,none⟩=some (.pointer (some ⟨g,0,none⟩)):=hp4.cell 0
 have q4:w4.cell? ⟨q,0,none⟩=some (.int .u64 n):=hqk.cell 0
 have HQ4:=lh hqk
 clear hw4 hq
 obtain⟨A,c,h4⟩:=HX4
 have H4:=lh h4
 by_cases he:e=0
 ·subst he
  by_cases hm:most < n
  ·have cT:=try_err (fid:=176) (caps:=#[.pointer (some ⟨w.heap.size+1,0,none⟩),.pointer (some ⟨q,0,none⟩),.pointer (some ⟨w.heap.size,0,none⟩)]) enter_count1 h4 (by decide) (Count1_big ha4 hqk h0 h1 hm)
   rw[if_neg (by simp),if_pos (.inr hm)] at HCT
   clear h4 hp4 ha4 hqk hm q4
   go_wp2_with fail
   refine cT.mono ?_
   rintro e w5 ⟨rfl,hx,hk⟩
   have HX:=lh (And.intro hx (HK4.out.trans hk fun _ _ h=>h))
   clear cT hx hk
   go_wp2_with fail
   go_ret
   rw[HCT.out]
   exact⟨rfl,HX.out.1,HX.out.2⟩
  ·by_cases hl:(b.length:Int) < n
   ·have cT:=try_err (fid:=176) (caps:=#[.pointer (some ⟨w.heap.size+1,0,none⟩),.pointer (some ⟨q,0,none⟩),.pointer (some ⟨w.heap.size,0,none⟩)]) enter_count1 h4 (by decide) (Count1_bad h4 ha4 hqk hp4 h0 h1 (by omega) hl)
    rw[if_neg (by simp),if_neg (by omega),if_pos hl] at HCT
    clear h4 hp4 ha4 hqk hm q4 hl
    go_wp2_with fail
    refine cT.mono ?_
    rintro e w5 ⟨rfl,hx,hk⟩
    have HX:=lh (And.intro hx (HK4.out.trans hk fun _ _ h=>h))
    clear cT hx hk
    go_wp2_with fail
    go_ret
    rw[HCT.out]
    exact⟨rfl,HX.out.1,HX.out.2⟩
   ·have cT:=try_ok (fid:=176) (caps:=#[.pointer (some ⟨w.heap.size+1,0,none⟩),.pointer (some ⟨q,0,none⟩),.pointer (some ⟨w.heap.size,0,none⟩)]) enter_count1 h4 (Count1_ok h4 ha4 hqk hp4 h0 h1 (by omega) (by omega))
    rw[if_neg (by simp),if_neg (by omega),if_neg hl] at HCT
    have hwn:IntKind.i64.wrap n=n:=IntWalk.i64_in _ (by have:=HRG.out;unfold P64 at this;omega)
    clear h4 hp4 ha4 hqk hm q4 hl
    go_wp2_with fail
    refine cT.mono ?_
    rintro e w5 ⟨rfl,hx,hb⟩
    have HX:=lh (And.intro hx (HK4.out.trans (Kp.of_below (S:=fun k=>k=g) hb) fun _ _ h=>h))
    have q5:w5.cell? ⟨q,0,none⟩=some (.int .u64 n):=(HQ4.out.below hb HQ4.out.lt).cell 0
    clear cT hx hb
    go_wp2_with fail
    go_ret
    rw[HCT.out]
    exact⟨rfl,HX.out.1,HX.out.2⟩
 ·have cT:=try_no h4 he (.func (.func 176) #[] #[.pointer (some ⟨w.heap.size+1,0,none⟩),.pointer (some ⟨q,0,none⟩),.pointer (some ⟨w.heap.size,0,none⟩)])
  rw[if_pos he] at HCT
  clear h4 hp4 ha4 hqk q4 he
  go_wp2_with fail
  refine cT.mono ?_
  rintro e' w5 ⟨rfl,rfl⟩
  clear cT
  go_wp2_with fail
  go_ret
  rw[HCT.out]
  exact⟨rfl,⟨A,c,H4.out⟩,HK4.out⟩
end
end
section
open Go.RowKit
section
variable {P:Program} {W w w1:World} {vs:Nat→Value}
def Ent.of (T:Value→World→Prop) (hT:∀ v w w',T v w→Below w.heap.size w w'→T v w') (ob:Value→Option Nat:=fun _=>none):Ent W:=⟨[],fun _ v w=>T v w,ob,fun _ v w w' h _ hb=>hT v w w' h hb,fun _ _ _ _ _ h=>h⟩
def Ent.ex (T:Value→Prop):Ent W:=⟨[],fun _ v _=>T v,fun _=>none,fun _ _ _ _ h _ _=>h,fun _ _ _ _ _ h=>h⟩
def Ent.val (x:Value):Ent W:=Ent.ex fun v=>v=x
def Ent.blk (t:TypeId) (cs:Array Value):Ent W:=Ent.of (fun v w=>∃ g,v=.pointer (some ⟨g,0,none⟩)∧Bk w g t cs) (fun v w w' ⟨g,e,h⟩ hb=>⟨g,e,h.below hb h.lt⟩) blkOf
def EL (l:List (Ent W)) (i:Nat):Ent W:=l.getD i (Ent.val undef)
/-- what the operation leaves -/
def Adds (E:Ent W) (vs:Nat→Value) (w:World) (v:Value) (w':World):Prop:=E.R vs v w'∧Below w.heap.size w w'∧∀ k,E.ob v=some k→w.heap.size≤k∧k < w'.heap.size
theorem adds_val {X x:Value} (h:x=X):Made P (Adds (Ent.val (W:=W) X) vs w) (.ok (.value x) w):=⟨h,Below.refl _ _,(fun k hk=>nomatch hk)⟩
theorem adds_quiet {f:FuncId} {args:Array Value} {X:Value} (h:Calls P f args w fun e w'=>e=.returned X∧∃ n,w'=w.drewN n):Made P (Adds (Ent.val (W:=W) X) vs w) (.ok (.enter f args) w) :=
 h.mono fun e w' ⟨he,n,hw⟩=>⟨_,he,rfl,by subst hw;exact below_drewN (Below.refl _ _) n,(fun k hk=>nomatch hk)⟩
theorem adds_below {f:FuncId} {args:Array Value} {X:Value} (h:Calls P f args w fun e w'=>e=.returned X∧Below w.heap.size w w'):Made P (Adds (Ent.val (W:=W) X) vs w) (.ok (.enter f args) w) :=
 h.mono fun e w' ⟨he,hb⟩=>⟨_,he,rfl,hb,(fun k hk=>nomatch hk)⟩
theorem adds_call {f:FuncId} {args:Array Value} {T:Value→World→Prop} {hT:∀ v w w',T v w→Below w.heap.size w w'→T v w'} {ob:Value→Option Nat} {Q:Ending→World→Prop} (h:Calls P f args w Q) (hQ:∀ e w',Q e w'→∃ v,e=.returned v∧T v w'∧Below w.heap.size w w'∧∀ k,ob v=some k→w.heap.size≤k∧k < w'.heap.size):Made P (Adds (Ent.of (W:=W) T hT ob) vs w) (.ok (.enter f args) w) :=
 h.mono fun e w' hq=>let ⟨v,he,h1,h2,h3⟩:=hQ e w' hq;⟨v,he,h1,h2,h3⟩
/-- .. without guarded operations -/
theorem wp_region_adds0 {id:Nat} {a0:Act} {W:World} {l:List Oper} {Q:Exit→Act→World→Prop} (n:Nat) (ds:Nat→List Nat) (E:Nat→Ent W) (hm:P.follows .mixedOrders=true) (hBB:sepG true l.toArray l.length n ds (fun _=>[])=true) (hb:sepB l.toArray l.length n ds (fun _=>[])=true)
  (hdl:(List.range n).all (fun i=>(E i).dl.all ((ds i).contains ·))=true)
  (hN:(List.range n).all (fun i=>match dstOf l.toArray i with | some d=>decide (d < a0.tmps.size) | none=>true)=true)
  (hstep:∀ i,i < n→∀ o,l[i]?=some o→∀ vs w,Below W.heap.size W w→(∀ j∈ds i,(E j).R vs (vs j) w)→Made P (Adds (E i) vs w) ((execOp (frm l.toArray a0 vs (ds i)).eval o).run P w))
  (hend:∀ vs w,Below W.heap.size W w→(∀ i,i < n→(E i).R vs (vs i) w∧∀ k,(E i).ob (vs i)=some k→W.heap.size≤k∧k < w.heap.size)→(∀ i,i < n→∀ i',i' < n→i≠i'→∀ k,(E i).ob (vs i)=some k→(E i').ob (vs i')≠some k)→wpList P l.toArray Q (l.drop n) (frm l.toArray a0 vs (List.range n)) w) :
  (Code.region id l.toArray true).wp P Q a0 W :=
 wp_region_adds n ds E hm hBB (fun i hi o ho g b hgb=>by rw[sepB_bare hb i hi o (by simpa using ho)] at hgb;cases hgb) hdl hN hstep hend
end
end
section
open Go.RowKit
def pureOp:Op→Bool
 | .move _=>true
 | .assign _=>true
 | .extract _ _=>true
 | _=>false
structure SepF (ops:Array Oper) (n:Nat) (fl:Nat→Bool):Prop where
 pure:∀ i,i < n→fl i=true→∀ o,ops[i]?=some o→pureOp o.op=true∧o.guard=none
 bare:∀ k,n≤k→∀ o,ops[k]?=some o→o.guard=none
 topnd:∀ k,n≤k→∀ o,ops[k]?=some o→∀ t,.tmp t∈o.op.operands→∀ j,j < n→fl j=true→dstOf ops j=some t→waits ops k j=true
 tdst:∀ k,n≤k→∀ d,dstOf ops k=some d→∀ j,j < n→dstOf ops j≠some d∧(fl j=true→∀ o,ops[j]?=some o→.tmp d ∉ o.op.operands)
def sepF (ops:Array Oper) (n:Nat) (fl:Nat→Bool):Bool :=
 (List.range n).all (fun i=>!fl i || ((ops[i]?).map fun o=>pureOp o.op && o.guard.isNone).getD true) &&
 (List.range ops.size).all (fun k=>decide (k < n) || ((ops[k]?).map fun o=>o.guard.isNone && (List.range n).all fun j =>
  (!fl j || o.op.operands.all fun x=>match x with | .tmp t=>dstOf ops j != some t || waits ops k j | _=>true) &&
  (match o.dst with
   | some d=>dstOf ops j != some d && (!fl j || ((ops[j]?).map fun oj=>oj.op.operands.all fun x=>match x with | .tmp t=>t != d | _=>true).getD true)
   | none=>true)).getD true)
theorem SepF.of {ops:Array Oper} {n:Nat} {fl:Nat→Bool} (h:sepF ops n fl=true):SepF ops n fl:=by
 unfold sepF at h
 simp only[Bool.and_eq_true,List.all_eq_true,List.mem_range,Bool.or_eq_true,decide_eq_true_eq] at h
 obtain⟨h1,h2⟩:=h
 have key:∀ k,n≤k→∀ o,ops[k]?=some o→(o.guard.isNone=true∧∀ j,j < n→((!fl j)=true ∨ (o.op.operands.all fun x=>match x with | .tmp t=>dstOf ops j != some t || waits ops k j | _=>true)=true)∧(match o.dst with
   | some d=>dstOf ops j != some d && (!fl j || ((ops[j]?).map fun oj=>oj.op.operands.all fun x=>match x with | .tmp t=>t != d | _=>true).getD true)
   | none=>true)=true):=fun k hk o ho=>by
  have hlt:k < ops.size:=(Array.getElem?_eq_some_iff.1 ho).1
  rcases h2 k hlt with h | h
  ·omega
  ·rw[ho] at h
   simp only[Option.map_some,Option.getD_some,Bool.and_eq_true,List.all_eq_true,List.mem_range,Bool.or_eq_true] at h
   exact⟨h.1,fun j hj=>h.2 j hj⟩
 refine⟨fun i hi hf o ho=>?_,fun k hk o ho=>?_,fun k hk o ho t ht j hj hf hd=>?_,fun k hk d hd j hj=>?_⟩
 ·rcases h1 i hi with h | h
  ·rw[hf] at h;cases h
  ·rw[ho] at h
   simp only[Option.map_some,Option.getD_some,Bool.and_eq_true] at h
   exact⟨h.1,by simpa using h.2⟩
 ·simpa using (key k hk o ho).1
 ·rcases ((key k hk o ho).2 j hj).1 with h | h
  ·rw[hf] at h;cases h
  ·have:=(Array.all_eq_true_iff_forall_mem.1 h) _ ht
   simpa [hd] using this
 ·obtain⟨o,ho⟩:∃ o,ops[k]?=some o:=by
   unfold dstOf at hd
   cases h:ops[k]? with
   | none=>rw[h] at hd;cases hd
   | some o=>exact⟨o,rfl⟩
  have h3:=((key k hk o ho).2 j hj).2
  have hod:o.dst=some d:=by unfold dstOf at hd;rw[ho] at hd;exact hd
  rw[hod] at h3
  simp only[Bool.and_eq_true,bne_iff_ne,ne_eq,Bool.or_eq_true] at h3
  refine⟨h3.1,fun hf oj hoj hm=>?_⟩
  rcases h3.2 with h4 | h4
  ·rw[hf] at h4;cases h4
  ·rw[hoj] at h4
   simp only[Option.map_some,Option.getD_some] at h4
   have:=(Array.all_eq_true_iff_forall_mem.1 h4) _ hm
   simp at this
section
variable {P:Program} {ops:Array Oper} {N n:Nat} {ds eats:Nat→List Nat} {fl:Nat→Bool} {W:World} {B:Nat} {ini:Nat→Option Nat} {a0:Act} {Q:Exit→Act→World→Prop} {ob:Nat→Value→Option Nat} {R:Nat→(Nat→Value)→Value→World→Prop}
/-- the tail has begun: the frame as it is (a), and as it would be if no operation had come late (b) -/
structure TInv (P:Program) (ops:Array Oper) (N n m:Nat) (fl:Nat→Bool) (vs:Nat→Value) (L:Array Bool) (a b:Act):Prop where
 lsize:L.size=N
 lo:∀ j,j < n→L.getD j false=false→fl j=true
 tl:∀ j,n≤j→j < m→L.getD j false=true
 th:∀ j,m≤j→j < N→L.getD j true=false
 defers:a.defers=b.defers
 size:a.tmps.size=b.tmps.size
 same:∀ d,(∀ j,j < n→L.getD j false=false→dstOf ops j≠some d)→a.tmps[d]?=b.tmps[d]?
 ahead:∀ j,j < n→L.getD j false=false→∀ d,dstOf ops j=some d→d < b.tmps.size→b.tmps[d]?=some (vs j)
 run:∀ j,j < n→L.getD j false=false→∀ o,ops[j]?=some o→∀ w,(execOp b.eval o).run P w=.ok (.value (vs j)) w
theorem put_tmps {a:Act} {d e:Nat} {v:Value}:(a.put (some d) v).tmps[e]?=if e=d then (if d < a.tmps.size then some v else none) else a.tmps[e]?:=by
 simp only[Act.put]
 by_cases h:e=d
 ·subst h
  rw[if_pos rfl]
  by_cases hl:e < a.tmps.size
  ·rw[if_pos hl,Array.getElem?_setIfInBounds_self_of_lt hl]
  ·rw[if_neg hl,Array.getElem?_eq_none (by simpa using hl)]
 ·rw[if_neg h,Array.getElem?_setIfInBounds_ne (Ne.symm h)]
theorem put_size {a:Act} {d:Option Tmp} {v:Value}:(a.put d v).tmps.size=a.tmps.size:=by cases d <;> simp[Act.put]
theorem put_defers {a:Act} {d:Option Tmp} {v:Value}:(a.put d v).defers=a.defers:=by cases d <;> rfl
/-- one that comes up: the count goes down -/
theorem count_step {L:Array Bool} {i f:Nat} (hL:L.size=N) (hr:i∈Region.ready .any ops L) (hf:((List.range N).filter fun i=>!L.getD i true).length=f+1):((List.range N).filter fun j=>!(L.setIfInBounds i true).getD j true).length=f:=by
 have hlt:=ready_lt hr
 have hun:=(mem_ready.1 hr).1
 have h1:((List.range N).filter fun j=>!(L.setIfInBounds i true).getD j true)=((List.range N).filter fun j=>!L.getD j true).filter (· != i):=by
  rw[List.filter_filter]
  refine List.filter_congr fun j hj=>?_
  by_cases h:i=j
  ·subst h
   rw[getD_set_self hlt]
   simp
  ·rw[getD_set_ne true h]
   simp[Ne.symm h]
 rw[h1]
 have hnd:((List.range N).filter fun j=>!L.getD j true).Nodup:=List.nodup_range.filter _
 have hmem:i∈(List.range N).filter fun j=>!L.getD j true:=List.mem_filter.2 ⟨List.mem_range.2 (by rw[hL] at hlt;exact hlt),by rw[hun];rfl⟩
 rw[← List.Nodup.erase_eq_filter hnd,List.length_erase_of_mem hmem,hf]
 rfl
/-- .. with guarded operations whose guards hold -/
theorem wp_region_addsG {id:Nat} {a0:Act} {W:World} {l:List Oper} {Q:Exit→Act→World→Prop} (n:Nat) (ds:Nat→List Nat) (E:Nat→Ent W) (hm:P.follows .mixedOrders=true) (hBB:sepG true l.toArray l.length n ds (fun _=>[])=true)
  (hdl:(List.range n).all (fun i=>(E i).dl.all ((ds i).contains ·))=true)
  (hN:(List.range n).all (fun i=>match dstOf l.toArray i with | some d=>decide (d < a0.tmps.size) | none=>true)=true)
  (hgd:∀ i,i < n→∀ o,l[i]?=some o→∀ g b,o.guard=some (g,b)→∀ vs v w,(E g).R vs v w→v=.bool b)
  (hstep:∀ i,i < n→∀ o,l[i]?=some o→∀ vs w,Below W.heap.size W w→(∀ j∈ds i,(E j).R vs (vs j) w)→Made P (Adds (E i) vs w) ((execOp (frm l.toArray a0 vs (ds i)).eval o).run P w))
  (hend:∀ vs w,Below W.heap.size W w→(∀ i,i < n→(E i).R vs (vs i) w∧∀ k,(E i).ob (vs i)=some k→W.heap.size≤k∧k < w.heap.size)→(∀ i,i < n→∀ i',i' < n→i≠i'→∀ k,(E i).ob (vs i)=some k→(E i').ob (vs i')≠some k)→wpList P l.toArray Q (l.drop n) (frm l.toArray a0 vs (List.range n)) w) :
  (Code.region id l.toArray true).wp P Q a0 W :=
 wp_region_adds n ds E hm hBB hgd hdl hN hstep hend
end
end
section
open Go.RowKit
section
variable {P:Program} {ops:Array Oper} {N n:Nat} {ds eats:Nat→List Nat} {fl:Nat→Bool} {md:Nat} {W:World} {B:Nat} {ini:Nat→Option Nat} {a0:Act} {Q:Exit→Act→World→Prop} {ob:Nat→Value→Option Nat} {R:Nat→(Nat→Value)→Value→World→Prop}
end
end
section
open Go.RowKit
/-- what can be read off the region's text -/
def sepI (ops:Array Oper) (N:Nat) (ds:Nat→List Nat):Bool :=
 decide (ops.size=N) && Region.noSelect ops &&
 (List.range N).all (fun i=>((ops[i]?).map (fun o=>o.guard.isNone)).getD true && (ds i).all (waits ops i) &&
  (List.range N).all (fun j=>((dstOf ops i).isNone || dstOf ops i != dstOf ops j || i == j) &&
   ((ops[i]?).map fun o=>o.op.operands.all fun x=>match x with | .tmp t=>dstOf ops j != some t || (ds i).contains j | _=>true).getD true) &&
  ((ops[i]?).map fun o=>o.after.all fun e=>!Region.binds .any e || decide (e.on < i)).getD true)
structure SepI (ops:Array Oper) (N:Nat) (ds:Nat→List Nat):Prop where
 size:ops.size=N
 sel:Region.noSelect ops=true
 bare:∀ i,i < N→∀ o,ops[i]?=some o→o.guard=none
 back:∀ i,i < N→∀ o,ops[i]?=some o→∀ e∈o.after,Region.binds .any e=true→e.on < i
 dep:∀ i,i < N→∀ j∈ds i,waits ops i j=true
 opnd:∀ i,i < N→∀ o,ops[i]?=some o→∀ t,.tmp t∈o.op.operands→∀ j,j < N→dstOf ops j=some t→j∈ds i
 dist:∀ i,i < N→∀ j,j < N→∀ d,dstOf ops i=some d→dstOf ops j=some d→i=j
theorem SepI.of {ops:Array Oper} {N:Nat} {ds:Nat→List Nat} (h:sepI ops N ds=true):SepI ops N ds:=by
 unfold sepI at h
 rw[Bool.and_eq_true,Bool.and_eq_true] at h
 obtain⟨⟨h1,h2⟩,h3⟩:=h
 have h1:=of_decide_eq_true h1
 have key:∀ i,i < N→((((ops[i]?).map (fun o=>o.guard.isNone)).getD true=true∧(ds i).all (waits ops i)=true)∧(List.range N).all (fun j=>((dstOf ops i).isNone || dstOf ops i != dstOf ops j || i == j) && ((ops[i]?).map fun o=>o.op.operands.all fun x=>match x with | .tmp t=>dstOf ops j != some t || (ds i).contains j | _=>true).getD true)=true)∧((ops[i]?).map fun o=>o.after.all fun e=>!Region.binds .any e || decide (e.on < i)).getD true=true:=fun i hi=>by
  have:=List.all_eq_true.1 h3 i (List.mem_range.2 hi)
  rw[Bool.and_eq_true,Bool.and_eq_true,Bool.and_eq_true] at this
  exact this
 refine⟨h1,h2,fun i hi o ho=>?_,fun i hi o ho e he hb=>?_,fun i hi j hj=>?_,fun i hi o ho t ht j hj hd=>?_,fun i hi j hj d hdi hdj=>?_⟩
 ·have:=(key i hi).1.1.1
  rw[ho] at this
  simpa using this
 ·have:=(key i hi).2
  rw[ho] at this
  simp only[Option.map_some,Option.getD_some] at this
  have h5:=Array.all_eq_true'.1 this e he
  rw[hb] at h5
  simpa using h5
 ·exact List.all_eq_true.1 (key i hi).1.1.2 j hj
 ·have h4:=List.all_eq_true.1 (key i hi).1.2 j (List.mem_range.2 hj)
  rw[Bool.and_eq_true] at h4
  have h5:=h4.2
  rw[ho] at h5
  simp only[Option.map_some,Option.getD_some] at h5
  have h6:=Array.all_eq_true'.1 h5 _ ht
  simp only[hd] at h6
  simpa using h6
 ·have h4:=List.all_eq_true.1 (key i hi).1.2 j (List.mem_range.2 hj)
  rw[Bool.and_eq_true] at h4
  have h5:=h4.1
  rw[hdi,hdj] at h5
  simpa using h5
structure FInv (ops:Array Oper) (N:Nat) (I:Array Bool→(Nat→Value)→World→Prop) (a0:Act) (vs:Nat→Value) (L:Array Bool) (a:Act) (w:World):Prop where
 defers:a.defers=a0.defers
 size:a.tmps.size=a0.tmps.size
 slot:∀ i,i < N→L.getD i false=true→∀ d,dstOf ops i=some d→d < a0.tmps.size→a.tmps[d]?=some (vs i)
 rest:∀ d,(∀ i,i < N→L.getD i false=true→dstOf ops i≠some d)→a.tmps[d]?=a0.tmps[d]?
 lsize:L.size=N
 inv:I L vs w
section
variable {P:Program} {ops:Array Oper} {N:Nat} {ds:Nat→List Nat} {a0:Act}
theorem frmI_defers (vs:Nat→Value):∀ l,(frm ops a0 vs l).defers=a0.defers
 | []=>rfl
 | i::l=>by unfold frm;rw[put_defers,frmI_defers vs l]
theorem frmI_size (vs:Nat→Value):∀ l,(frm ops a0 vs l).tmps.size=a0.tmps.size
 | []=>rfl
 | i::l=>by unfold frm;rw[put_size,frmI_size vs l]
theorem frmI_rest (vs:Nat→Value):∀ l d,(∀ i∈l,dstOf ops i≠some d)→(frm ops a0 vs l).tmps[d]?=a0.tmps[d]?
 | [],_,_=>rfl
 | k::l,d,h=>by
  unfold frm
  have ih:=frmI_rest vs l d fun i hi=>h i (List.mem_cons_of_mem _ hi)
  cases hkd:dstOf ops k with
  | none=>exact ih
  | some e =>
   rw[put_tmps,if_neg (fun h2=>h k (List.mem_cons_self ..) (by rw[hkd,h2]))]
   exact ih
end
end
section
open Go.RowKit
/-- the values of what is done, where they are known ahead -/
def Vals (VL:List (Option Value)) (L:Array Bool) (vs:Nat→Value):Prop:=∀ i v,VL[i]?=some (some v)→L.getD i false=true→vs i=v
theorem Vals.put {VL:List (Option Value)} {L:Array Bool} {vs:Nat→Value} {i:Nat} {v:Value} (h:Vals VL L vs) (hv:∀ x,VL[i]?=some (some x)→v=x):Vals VL (L.setIfInBounds i true) (fun j=>if j=i then v else vs j):=fun k x hk hl=>by
 by_cases hki:k=i
 ·subst hki
  show(if k=k then v else vs k)=x
  rw[if_pos rfl]
  exact hv x hk
 ·show(if k=i then v else vs k)=x
  rw[if_neg hki]
  rw[getD_set_ne false (fun e=>hki e.symm)] at hl
  exact h k x hk hl
/-- one of two, by whether an operation is done -/
def stg {α:Type} (L:Array Bool) (i:Nat) (x y:α):α:=if L.getD i false=true then y else x
theorem stg_set {α:Type} {L:Array Bool} {i k:Nat} (x y:α) (h:i≠k):stg (L.setIfInBounds i true) k x y=stg L k x y:=by
 unfold stg
 rw[getD_set_ne false h]
theorem stg_new {α:Type} {L:Array Bool} {i:Nat} (x y:α) (h:i < L.size):stg (L.setIfInBounds i true) i x y=y:=by
 unfold stg
 rw[if_pos (by simp[h])]
theorem stg_done {α:Type} {L:Array Bool} {i:Nat} (x y:α) (h:L.getD i false=true):stg L i x y=y:=by unfold stg;rw[if_pos h]
theorem made_skip {P:Program} {T:Value→World→Prop} {w':World} (h:T undef w'):Made P T (.ok .skip w'):=h
theorem made_call {P:Program} {T:Value→World→Prop} {f:FuncId} {args:Array Value} {w:World} (h:Calls P f args w fun e w'=>∃ v,e=.returned v∧T v w'):Made P T (.ok (.enter f args) w):=h
section
variable {L:Array Bool} {vs:Nat→Value} {w w':World} {i k nx j p:Nat} {v:Value} {T:Value→World→Prop}
/-- a fact of an operation's value, once it is done -/
def Fk (k:Nat) (T:Value→World→Prop) (L:Array Bool) (vs:Nat→Value) (w:World):Prop:=L.getD k false=true→T (vs k) w
theorem Fk.new (h:T v w'):Fk i T (L.setIfInBounds i true) (fun j=>if j=i then v else vs j) w':=fun _=>by
 show T (if i=i then v else vs i) w'
 rw[if_pos rfl]
 exact h
/-- a fact of an operation's value, until another one takes it over -/
def Rk (k nx:Nat) (T:Value→World→Prop) (L:Array Bool) (vs:Nat→Value) (w:World):Prop:=L.getD k false=true→L.getD nx true=false→T (vs k) w
theorem Rk.new (h:T v w'):Rk i nx T (L.setIfInBounds i true) (fun j=>if j=i then v else vs j) w':=fun _ _=>by
 show T (if i=i then v else vs i) w'
 rw[if_pos rfl]
 exact h
/-- the same value -/
def Sk (k j:Nat) (L:Array Bool) (vs:Nat→Value):Prop:=L.getD k false=true→vs k=vs j
theorem Sk.new (hk:j≠i) (h:v=vs j):Sk i j (L.setIfInBounds i true) (fun j=>if j=i then v else vs j):=fun _=>by
 show(if i=i then v else vs i)=(if j=i then v else vs j)
 rw[if_pos rfl,if_neg hk]
 exact h
/-- a part of a value -/
def Xk (k j p:Nat) (L:Array Bool) (vs:Nat→Value):Prop:=L.getD k false=true→∃ l:Array Value,vs j=.tuple l∧l[p]?=some (vs k)
theorem Xk.new {l:Array Value} (hk:j≠i) (h:vs j=.tuple l) (hp:l[p]?=some v):Xk i j p (L.setIfInBounds i true) (fun j=>if j=i then v else vs j):=fun _=>by
 show ∃ l:Array Value,(if j=i then v else vs j)=.tuple l∧l[p]?=some (if i=i then v else vs i)
 rw[if_pos rfl,if_neg hk]
 exact⟨l,h,hp⟩
end
end
section
open Go.RowKit
theorem done_set {L:Array Bool} {i j:Nat} (h:L.getD j false=true):(L.setIfInBounds i true).getD j false=true:=by
 by_cases hij:i=j
 ·subst hij
  have hlt:i < L.size:=Nat.lt_of_not_le fun hn=>by
   rw[Array.getD_eq_getD_getElem?,Array.getElem?_eq_none hn] at h
   cases h
  simp[hlt]
 ·rw[getD_set_ne false hij];exact h
/-- what is done is closed under what an operation waits for -/
def Clo (ops:Array Oper) (L:Array Bool):Prop:=∀ k j,L.getD k false=true→waits ops k j=true→L.getD j false=true
theorem Clo.nd {ops:Array Oper} {L:Array Bool} (h:Clo ops L) {i k:Nat} (hi:L.getD i false=false) (hw:waits ops k i=true):L.getD k false=false:=by
 cases hk:L.getD k false with
 | false=>rfl
 | true=>rw[h k i hk hw] at hi;cases hi
/-- the facts of the operations' values; nx: the operation that takes a value over -/
structure RgI (W:World) (B N:Nat) (T:Nat→Value→World→Prop) (nx:Nat→Nat) (L:Array Bool) (vs:Nat→Value) (w:World):Prop where
 b:Below B W w
 f:∀ k,k < N→L.getD k false=true→(nx k≠k→L.getD (nx k) false=false)→T k (vs k) w
section
variable {W w w':World} {B N i:Nat} {T:Nat→Value→World→Prop} {nx:Nat→Nat} {L:Array Bool} {vs:Nat→Value} {v:Value}
end
end
section
open Go.RowKit
/-- what can be read off the region's text -/
def sepJ (ops:Array Oper) (N:Nat) (ds:Nat→List Nat):Bool :=
 decide (ops.size=N) && Region.noSelect ops &&
 (List.range N).all (fun i=>((ops[i]?).map (fun o=>o.guard.isNone)).getD true && (ds i).all (waits ops i) &&
  (List.range N).all (fun j=>((dstOf ops i).isNone || dstOf ops i != dstOf ops j || i == j) &&
   ((ops[i]?).map fun o=>o.op.operands.all fun x=>match x with | .tmp t=>dstOf ops j != some t || (ds i).contains j || waits ops j i | _=>true).getD true) &&
  ((ops[i]?).map fun o=>o.after.all fun e=>!Region.binds .any e || decide (e.on < i)).getD true)
structure SepJ (ops:Array Oper) (N:Nat) (ds:Nat→List Nat):Prop where
 size:ops.size=N
 sel:Region.noSelect ops=true
 bare:∀ i,i < N→∀ o,ops[i]?=some o→o.guard=none
 back:∀ i,i < N→∀ o,ops[i]?=some o→∀ e∈o.after,Region.binds .any e=true→e.on < i
 dep:∀ i,i < N→∀ j∈ds i,waits ops i j=true
 opnd:∀ i,i < N→∀ o,ops[i]?=some o→∀ t,.tmp t∈o.op.operands→∀ j,j < N→dstOf ops j=some t→j∈ds i ∨ waits ops j i=true
 dist:∀ i,i < N→∀ j,j < N→∀ d,dstOf ops i=some d→dstOf ops j=some d→i=j
theorem SepJ.of {ops:Array Oper} {N:Nat} {ds:Nat→List Nat} (h:sepJ ops N ds=true):SepJ ops N ds:=by
 unfold sepJ at h
 rw[Bool.and_eq_true,Bool.and_eq_true] at h
 obtain⟨⟨h1,h2⟩,h3⟩:=h
 have h1:=of_decide_eq_true h1
 have key:∀ i,i < N→((((ops[i]?).map (fun o=>o.guard.isNone)).getD true=true∧(ds i).all (waits ops i)=true)∧(List.range N).all (fun j=>((dstOf ops i).isNone || dstOf ops i != dstOf ops j || i == j) && ((ops[i]?).map fun o=>o.op.operands.all fun x=>match x with | .tmp t=>dstOf ops j != some t || (ds i).contains j || waits ops j i | _=>true).getD true)=true)∧((ops[i]?).map fun o=>o.after.all fun e=>!Region.binds .any e || decide (e.on < i)).getD true=true:=fun i hi=>by
  have:=List.all_eq_true.1 h3 i (List.mem_range.2 hi)
  rw[Bool.and_eq_true,Bool.and_eq_true,Bool.and_eq_true] at this
  exact this
 refine⟨h1,h2,fun i hi o ho=>?_,fun i hi o ho e he hb=>?_,fun i hi j hj=>?_,fun i hi o ho t ht j hj hd=>?_,fun i hi j hj d hdi hdj=>?_⟩
 ·have:=(key i hi).1.1.1
  rw[ho] at this
  simpa using this
 ·have:=(key i hi).2
  rw[ho] at this
  simp only[Option.map_some,Option.getD_some] at this
  have h5:=Array.all_eq_true'.1 this e he
  rw[hb] at h5
  simpa using h5
 ·exact List.all_eq_true.1 (key i hi).1.1.2 j hj
 ·have h4:=List.all_eq_true.1 (key i hi).1.2 j (List.mem_range.2 hj)
  rw[Bool.and_eq_true] at h4
  have h5:=h4.2
  rw[ho] at h5
  simp only[Option.map_some,Option.getD_some] at h5
  have h6:=Array.all_eq_true'.1 h5 _ ht
  simp only[hd] at h6
  simpa using h6
 ·have h4:=List.all_eq_true.1 (key i hi).1.2 j (List.mem_range.2 hj)
  rw[Bool.and_eq_true] at h4
  have h5:=h4.1
  rw[hdi,hdj] at h5
  simpa using h5
section
variable {P:Program} {ops:Array Oper} {N:Nat} {ds:Nat→List Nat} {a0:Act}
theorem frmJ_slot (hs:SepJ ops N ds) (vs:Nat→Value):∀ l,(∀ i∈l,i < N)→∀ i∈l,∀ d,dstOf ops i=some d→d < a0.tmps.size→(frm ops a0 vs l).tmps[d]?=some (vs i)
 | [],_,i,h,_,_,_=>by cases h
 | k::l,hl,i,h,d,hd,hlt=>by
  unfold frm
  by_cases hk:dstOf ops k=some d
  ·have e:k=i:=hs.dist k (hl k (List.mem_cons_self ..)) i (hl i h) d hk hd
   subst e
   rw[hk,put_tmps,if_pos rfl,if_pos (by rw[frmI_size];exact hlt)]
  ·have hne:i≠k:=fun e=>hk (e ▸ hd)
   have hi:i∈l:=(List.mem_cons.1 h).resolve_left hne
   have ih:=frmJ_slot hs vs l (fun j hj=>hl j (List.mem_cons_of_mem _ hj)) i hi d hd hlt
   cases hkd:dstOf ops k with
   | none=>exact ih
   | some e =>
    rw[put_tmps,if_neg (fun h=>hk (by rw[hkd,h]))]
    exact ih
end
theorem clo_set {ops:Array Oper} {L:Array Bool} {N i:Nat} (hc:Clo ops L) (hwt:∀ j,waits ops i j=true→L.getD j false=true) (hl:L.size=N) (hi:i < N):Clo ops (L.setIfInBounds i true):=fun k j hk hj=>by
 by_cases hki:i=k
 ·subst hki
  exact done_set (hwt j hj)
 ·rw[getD_set_ne false hki] at hk
  exact done_set (hc k j hk hj)
theorem wp_region_invD {P:Program} {id:Nat} {a0:Act} {W:World} {l:List Oper} {Q:Exit→Act→World→Prop} (N:Nat) (ds:Nat→List Nat) (I:Array Bool→(Nat→Value)→World→Prop) (hm:P.follows .mixedOrders=true) (hBB:sepJ l.toArray N ds=true)
  (hN:(List.range N).all (fun i=>match dstOf l.toArray i with | some d=>decide (d < a0.tmps.size) | none=>true)=true)
  (h0:∀ vs,I (Array.replicate N false) vs W.drew)
  (hstep:∀ i,i < N→∀ o,l[i]?=some o→∀ (L:Array Bool) vs w,L.size=N→L.getD i true=false→(∀ j,waits l.toArray i j=true→L.getD j false=true)→Clo l.toArray L→I L vs w →
   Made P (fun v w'=>I (L.setIfInBounds i true) (fun j=>if j=i then v else vs j) w') ((execOp (frm l.toArray a0 vs (ds i)).eval o).run P w))
  (hend:∀ (L:Array Bool) vs w,L.size=N→(∀ j,j < N→L.getD j false=true)→I L vs w→wpList P l.toArray Q [] (frm l.toArray a0 vs (List.range N)) w) :
  (Code.region id l.toArray true).wp P Q a0 W:=by
 have hs:=SepJ.of hBB
 have hN':∀ i,i < N→∀ d,dstOf l.toArray i=some d→d < a0.tmps.size:=fun i hi d hd=>by
  have:=List.all_eq_true.1 hN i (List.mem_range.2 hi)
  rw[hd] at this
  simpa using this
 have key:∀ (f:Nat) (L:Array Bool) (a:Act) (w:World) (vs:Nat→Value),FInv l.toArray N (fun L vs w=>I L vs w∧Clo l.toArray L) a0 vs L a w→((List.range N).filter fun i=>!L.getD i true).length=f→wpAny P .any l.toArray Q f L a w:=by
  intro f
  induction f with
  | zero =>
   intro L a w vs inv hf
   have hall:∀ j,j < N→L.getD j false=true:=fun j hj=>by
    cases h1:L.getD j false with
    | true=>rfl
    | false =>
     have h2:L.getD j true=false:=getD_in (by rw[inv.lsize];omega) h1
     have:j∈(List.range N).filter fun i=>!L.getD i true:=List.mem_filter.2 ⟨List.mem_range.2 (by omega),by rw[h2];rfl⟩
     rw[List.length_eq_zero_iff.1 hf] at this
     cases this
   have hae:a=frm l.toArray a0 vs (List.range N):=by
    have h1:a.tmps=(frm l.toArray a0 vs (List.range N)).tmps:=by
     refine Array.ext_getElem? fun d=>?_
     by_cases h:∃ j,j < N∧dstOf l.toArray j=some d
     ·obtain⟨j,hj,hjd⟩:=h
      rw[frmJ_slot hs vs (List.range N) (fun k hk=>List.mem_range.1 hk) j (List.mem_range.2 hj) d hjd (hN' j hj d hjd),inv.slot j hj (hall j hj) d hjd (hN' j hj d hjd)]
     ·rw[frmI_rest vs (List.range N) d fun j hj hjd=>h ⟨j,List.mem_range.1 hj,hjd⟩,inv.rest d fun j hj _ hjd=>h ⟨j,hj,hjd⟩]
    have h2:a.defers=(frm l.toArray a0 vs (List.range N)).defers:=by rw[frmI_defers,inv.defers]
    cases a
    cases hq:frm l.toArray a0 vs (List.range N)
    rw[hq] at h1 h2
    simp only at h1 h2
    rw[h1,h2]
   refine⟨List.eq_nil_iff_forall_not_mem.2 fun j hj=>?_,?_⟩
   ·have h0:=(mem_ready.1 hj).1
    have hlt:=ready_lt hj
    rw[getD_both' hlt (hall j (by rw[inv.lsize] at hlt;omega))] at h0
    cases h0
   ·rw[hae]
    exact hend L vs w inv.lsize hall inv.inv.1
  | succ f ih =>
   intro L a w vs inv hf
   refine⟨fun h0=>?_,fun i hr=>?_⟩
   ·exfalso
    obtain⟨j,hj⟩:∃ j,j∈(List.range N).filter fun i=>!L.getD i true:=by
     cases hl:(List.range N).filter fun i=>!L.getD i true with
     | nil=>rw[hl] at hf;cases hf
     | cons j l=>exact⟨j,List.mem_cons_self ..⟩
    obtain⟨h1,h2⟩:=List.mem_filter.1 hj
    have hex:∀ m,∀ j,j < m→j < N→L.getD j true=false→∃ i,i∈Region.ready .any l.toArray L:=by
     intro m
     induction m with
     | zero=>intro j hj;omega
     | succ m ih2 =>
      intro j hj hjN hu
      by_cases hrd:j∈Region.ready .any l.toArray L
      ·exact⟨j,hrd⟩
      ·have hoj:∃ o,l.toArray[j]?=some o:=⟨l.toArray[j]'(by rw[hs.size];exact hjN),Array.getElem?_eq_getElem _⟩
       obtain⟨o,ho⟩:=hoj
       have:¬ ∀ e∈o.after,Region.binds .any e=true→L.getD e.on false=true:=fun hall=>hrd (mem_ready.2 ⟨hu,o,ho,hall⟩)
       obtain⟨e,hne⟩:=Classical.not_forall.1 this
       obtain⟨he,hne⟩:=Classical.not_forall.1 hne
       obtain⟨hb,hne⟩:=Classical.not_forall.1 hne
       have hlt:=hs.back j hjN o ho e he hb
       exact ih2 e.on (by omega) (by omega) (getD_in (by rw[inv.lsize];omega) (by simpa using hne))
    obtain⟨i,hi⟩:=hex (j+1) j (by omega) (List.mem_range.1 h1) (by simpa using h2)
    rw[h0] at hi
    cases hi
   ·have hcnt:=count_step inv.lsize hr hf
    have hlt:=ready_lt hr
    rw[inv.lsize] at hlt
    obtain⟨hun,o,ho,hall⟩:=mem_ready.1 hr
    have hol:l[i]?=some o:=by simpa using ho
    have hg:o.guard=none:=hs.bare i hlt o ho
    unfold wpOp
    rw[ho]
    simp only[]
    rw[if_pos (by simp[Region.wanted,hg])]
    refine .inl ?_
    have hdo:dstOf l.toArray i=o.dst:=by unfold dstOf;rw[ho];rfl
    have hsel:=Region.noSelect_spec hs.sel
    have hwt:∀ j,waits l.toArray i j=true→L.getD j false=true:=fun j hj=>waits_listed hr hj
    have hdlt:∀ j∈ds i,j < N:=fun j hj=>by
     have hw:=hs.dep i hlt j hj
     unfold waits at hw
     rw[ho] at hw
     obtain⟨e,he,hb⟩:=Array.any_eq_true'.1 hw
     simp only[Bool.and_eq_true,beq_iff_eq] at hb
     have:=hs.back i hlt o ho e he hb.1
     omega
    have hdl:∀ j∈ds i,L.getD j false=true:=fun j hj=>hwt j (hs.dep i hlt j hj)
    have hex:execOp a.eval o=execOp (frm l.toArray a0 vs (ds i)).eval o:=execOp_congr o (fun cs b=>hsel i o cs b ho) (put_operand fun d hd=>by
     by_cases h:∃ j,j < N∧dstOf l.toArray j=some d
     ·obtain⟨j,hj,hjd⟩:=h
      rcases hs.opnd i hlt o ho d hd j hj hjd with hm | hm
      ·rw[frmJ_slot hs vs (ds i) hdlt j hm d hjd (hN' j hj d hjd),inv.slot j hj (hdl j hm) d hjd (hN' j hj d hjd)]
      ·have hnj:¬ L.getD j false=true:=fun h=>by
        have h1:=inv.inv.2 j i h hm
        rw[getD_both' (by rw[inv.lsize];exact hlt) h1] at hun
        cases hun
       have hdd:∀ k,k < N→L.getD k false=true→dstOf l.toArray k≠some d:=fun k hk hkl hkd=>by
        have:=hs.dist k hk j hj d hkd hjd
        subst this
        exact hnj hkl
       rw[frmI_rest vs (ds i) d fun k hk=>hdd k (hdlt k hk) (hdl k hk),inv.rest d hdd]
     ·rw[frmI_rest vs (ds i) d fun j hj hjd=>h ⟨j,hdlt j hj,hjd⟩,inv.rest d fun j hj _ hjd=>h ⟨j,hj,hjd⟩])
    refine wp_of_made (T:=fun v w'=>I (L.setIfInBounds i true) (fun j=>if j=i then v else vs j) w'∧Clo l.toArray (L.setIfInBounds i true)) (by
     rw[hex]
     exact(hstep i hlt o hol L vs w inv.lsize hun hwt inv.inv.2 inv.inv.1).mono fun v w' h=>And.intro h (clo_set inv.inv.2 hwt inv.lsize hlt)) fun v w' hl=>?_
    have hget:∀ j,(L.setIfInBounds i true).getD j false=true→j=i ∨ L.getD j false=true:=fun j hj=>by
     by_cases h:i=j
     ·exact .inl h.symm
     ·rw[getD_set_ne false h] at hj;exact .inr hj
    refine ih _ _ _ (fun j=>if j=i then v else vs j) ⟨by rw[put_defers,inv.defers],by rw[put_size,inv.size],fun j hj hjl d hd hdl2=>?_,fun d hd=>?_,by simp[inv.lsize],hl⟩ hcnt
    ·by_cases hji:j=i
     ·subst hji
      rw[← hdo,hd,put_tmps,if_pos rfl,if_pos (by rw[inv.size];exact hdl2),if_pos rfl]
     ·have hjl':=(hget j hjl).resolve_left hji
      have h1:=inv.slot j hj hjl' d hd hdl2
      rw[if_neg hji]
      cases hod:o.dst with
      | none=>exact h1
      | some e =>
       rw[put_tmps,if_neg (fun h2=>hji (hs.dist j hj i hlt d hd (by rw[hdo,hod,h2])))]
       exact h1
    ·have h1:=inv.rest d fun j hj hjl=>hd j hj (by
      by_cases h:i=j
      ·subst h;simp[inv.lsize,hlt]
      ·rw[getD_set_ne false h];exact hjl)
     cases hod:o.dst with
     | none=>exact h1
     | some e =>
      rw[put_tmps,if_neg (fun h2=>hd i hlt (by simp[inv.lsize,hlt]) (by rw[hdo,hod,h2]))]
      exact h1
 refine wp_region_any hm ?_
 refine key _ _ _ _ (fun _=>undef) ⟨rfl,rfl,fun i _ h=>?_,fun _ _=>rfl,by simp[hs.size],?_⟩ ?_
 ·rw[getD_replicate_false] at h;cases h
 ·have:=h0 (fun _=>undef)
  rw[← hs.size] at this
  exact⟨this,fun k j h=>by rw[getD_replicate_false] at h;cases h⟩
 ·have hz:=hs.size
  have:((List.range N).filter fun i=>!(Array.replicate l.toArray.size false).getD i true)=List.range N:=by
   refine List.filter_eq_self.2 fun i hi=>?_
   have:=List.mem_range.1 hi
   have h5:i < l.length:=by rw[← hz] at this;simpa using this
   simp[h5]
  rw[this]
  simp[← hz]
/-- what the text says of a chain: lst: which operations hold the row; prv: whose row an operation takes over; tt: the last one -/
def chB (isr:Nat→Bool) (prv:Nat→Option Nat) (ds:Nat→List Nat) (N tt:Nat):Bool :=
 isr tt && decide (tt < N) && (List.range N).all (fun i=>(match prv i with
  | none=>!isr i || (List.range N).all (fun j=>!isr j || (prv j).isSome || j == i)
  | some p=>isr i && isr p && decide (p < N) && (ds i).contains p && (List.range N).all (fun j=>prv j != some p || j == i)) &&
  (!isr i || i == tt || (List.range N).any (fun j=>prv j == some i)))
structure ChB (isr:Nat→Bool) (prv:Nat→Option Nat) (ds:Nat→List Nat) (N tt:Nat):Prop where
 t:isr tt=true
 tN:tt < N
 row:∀ i,i < N→∀ p,prv i=some p→isr i=true∧isr p=true∧p < N∧p∈ds i
 one:∀ i,i < N→∀ p,prv i=some p→∀ j,j < N→prv j=some p→j=i
 st:∀ i,i < N→prv i=none→isr i=true→∀ j,j < N→prv j=none→isr j=true→j=i
 last:∀ i,i < N→isr i=true→i=tt ∨ ∃ j,j < N∧prv j=some i
theorem ChB.of {isr:Nat→Bool} {prv:Nat→Option Nat} {ds:Nat→List Nat} {N tt:Nat} (h:chB isr prv ds N tt=true):ChB isr prv ds N tt:=by
 unfold chB at h
 rw[Bool.and_eq_true,Bool.and_eq_true] at h
 obtain⟨⟨h1,h2⟩,h3⟩:=h
 have key:∀ i,i < N→_:=fun i hi=>List.all_eq_true.1 h3 i (List.mem_range.2 hi)
 refine⟨h1,of_decide_eq_true h2,fun i hi p hp=>?_,fun i hi p hp j hj hjp=>?_,fun i hi hp hr j hj hjp hjr=>?_,fun i hi hr=>?_⟩
 ·have:=key i hi
  rw[hp] at this
  simp only[Bool.and_eq_true,decide_eq_true_eq,List.contains_eq_mem] at this
  exact⟨this.1.1.1.1.1,this.1.1.1.1.2,this.1.1.1.2,this.1.1.2⟩
 ·have:=key i hi
  rw[hp] at this
  simp only[Bool.and_eq_true] at this
  have h5:=List.all_eq_true.1 this.1.2 j (List.mem_range.2 hj)
  rw[hjp] at h5
  simpa using h5
 ·have:=key i hi
  rw[hp] at this
  simp only[hr,Bool.and_eq_true,Bool.not_true,Bool.false_or] at this
  have h5:=List.all_eq_true.1 this.1 j (List.mem_range.2 hj)
  rw[hjp,hjr] at h5
  simpa using h5
 ·have:=key i hi
  rw[Bool.and_eq_true] at this
  have h5:=this.2
  rw[hr] at h5
  simp only[Bool.not_true,Bool.false_or,Bool.or_eq_true,beq_iff_eq,List.any_eq_true,List.mem_range] at h5
  exact h5
def Sub (V0:Value) (W:World) (v:Value):Prop:=∀ q,v.ownBlock=some q→V0.ownBlock=some q ∨ W.heap.size≤q
/-- what holds while a chain runs -/
structure ChI (W:World) (e:TypeId) (B N:Nat) (V0:Value) (isr:Nat→Bool) (lst:Nat→List Value) (prv:Nat→Option Nat) (vals:Nat→Value) (L:Array Bool) (vs:Nat→Value) (w:World):Prop where
 k:Kp (fun k=>V0.ownBlock=some k) W w
 v:∀ i,i < N→isr i=false→L.getD i false=true→vs i=vals i
 s:((∀ i,i < N→isr i=true→L.getD i false=false)∧∀ i,i < N→isr i=true→prv i=none→w.ownsRow B e 1 V0 (lst i).length (lst i)) ∨
  ∃ k,k < N∧isr k=true∧L.getD k false=true∧w.ownsRow B e 1 (vs k) (lst k).length (lst k)∧Sub V0 W (vs k)∧(∀ j,j < N→prv j=some k→L.getD j false=false)∧(∀ j,j < N→isr j=true→L.getD j false=true→j=k ∨ ∃ i,i < N∧prv i=some j∧L.getD i false=true)∧∀ j,j < N→isr j=true→prv j=none→L.getD j false=true
theorem getD_setN {L:Array Bool} {N i:Nat} (hl:L.size=N) (hi:i < N):(L.setIfInBounds i true).getD i false=true:=by simp[hl,hi]
theorem und' {L:Array Bool} {i:Nat} (h:L.getD i true=false):L.getD i false=false:=by
 cases hh:L.getD i false with
 | false=>rfl
 | true =>
  by_cases hl:i < L.size
  ·rw[getD_both' hl hh] at h;cases h
  ·simp[Array.getD,hl] at h
end
end Go.Proofs.YtmbnlccafcfbeaaGreatDoor
