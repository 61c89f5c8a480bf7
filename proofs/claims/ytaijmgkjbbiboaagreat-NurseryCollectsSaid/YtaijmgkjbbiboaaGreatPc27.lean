/- Parts of the proof: RgIn, Trunc, TrE. -/
import Derived.OrdersIn
import Derived.RangeFuncBox
import Derived.RangeFuncNested
import Derived.StillTailTactics
import Derived.Test.YtaijmgkjbbiboaaGreatPcA
import Derived.Test.YtaijmgkjbbiboaaGreatPc14
set_option linter.unusedVariables false
set_option linter.unusedSimpArgs false
set_option linter.unusedSectionVars false
set_option maxRecDepth 100000
namespace Go.Proofs.YtaijmgkjbbiboaaGreat
section
open Go Go.RowKit
def callless (o:Op):Bool:=match o with
 | .move _=>true
 | .assign _=>true
 | .load _ _=>true
 | .store _ _ _=>true
 | .nilCheck _=>true
 | .binOp _ _ _ _ _=>true
 | .slice _ _ _ _ _=>true
 | .fieldAddr _ _ _=>true
 | .indexAddr _ _ _=>true
 | _=>false
theorem val_or {P:Program} {w w':World} {s:Sem Value} {nx:Next} (h:(do pure (Next.value (← s)):Sem Next).run P w=.ok nx w'):∃ v,nx=.value v:=by
 rw[Sem.run_bind] at h
 cases hs:s.run P w with
 | ok v w1 =>
  rw[hs] at h
  simp only[Result.andThen_ok] at h
  cases h
  exact⟨v,rfl⟩
 | halt e w1 =>
  rw[hs] at h
  cases h
theorem skip_or {P:Program} {w w':World} {s:Sem Unit} {nx:Next} (h:(do s;pure Next.skip:Sem Next).run P w=.ok nx w'):nx=.skip:=by
 rw[Sem.run_bind] at h
 cases hs:s.run P w with
 | ok v w1 =>
  rw[hs] at h
  simp only[Result.andThen_ok] at h
  cases h
  rfl
 | halt e w1 =>
  rw[hs] at h
  cases h
def Vals1 (P:Program) (s:Sem Next):Prop:=∀ w nx w',s.run P w=.ok nx w'→∃ v,nx=Next.value v
theorem Vals1.bind {P:Program} {α:Type} (s:Sem α) (f:α→Sem Next) (h:∀ a,Vals1 P (f a)):Vals1 P (s >>= f):=fun w nx w' hr=>by
 rw[Sem.run_bind] at hr
 cases hs:s.run P w with
 | ok v w1 =>
  rw[hs] at hr
  simp only[Result.andThen_ok] at hr
  exact h v _ _ _ hr
 | halt e w1 =>
  rw[hs] at hr
  cases hr
theorem Vals1.pure {P:Program} (v:Value):Vals1 P (Pure.pure (Next.value v)):=fun w nx w' hr=>by cases hr;exact⟨v,rfl⟩
theorem Vals1.ite {P:Program} {c:Bool} {s t:Sem Next} (hs:Vals1 P s) (ht:Vals1 P t):Vals1 P (if c=true then s else t):=by
 split
 ·exact hs
 ·exact ht
theorem callless_run {P:Program} {w w':World} {ρ:Operand→Value} {o:Oper} {nx:Next} (hc:callless o.op=true) (h:(execOp ρ o).run P w=.ok nx w'):(∃ v,nx=.value v) ∨ nx=.skip:=by
 unfold execOp at h
 cases ho:o.op <;> rw[ho] at h hc <;> simp only[callless] at hc <;> first | (cases hc;done) | skip
 case move=>cases h;exact .inl ⟨_,rfl⟩
 case assign=>cases h;exact .inl ⟨_,rfl⟩
 case load=>exact .inl (val_or h)
 case store=>exact .inr (skip_or h)
 case binOp=>exact .inl (val_or h)
 case slice=>exact .inl (val_or h)
 case fieldAddr=>exact .inl (val_or h)
 case indexAddr=>exact .inl (val_or h)
 case nilCheck x =>
  dsimp only at h
  split at h
  ·cases h
  ·cases h
  ·cases h
  ·split at h
   ·cases h
   ·refine .inl (Vals1.bind _ _ (fun p=>?_) _ _ _ h)
    refine Vals1.bind _ _ fun q=>?_
    exact Vals1.ite (Vals1.bind _ _ fun _=>Vals1.pure _) (Vals1.pure _)
   ·cases h
    exact .inl ⟨_,rfl⟩
  ·cases h
   exact .inl ⟨_,rfl⟩
/-- only the normal exit -/
def NQ (Q:Exit→Act→World→Prop) (e:Exit) (a:Act) (w:World):Prop:=e=.normal∧Q .normal a w
theorem NQ.no {Q:Exit→Act→World→Prop}:¬ LetsOut (NQ Q):=fun⟨_,_,h,_⟩=>by cases h
section
variable {F:Fence} {n:Nat} {P:Program} {ops:Array Oper} {Q:Exit→Act→World→Prop} {md:Region.Mode}
theorem callless_wp {o:Oper} (hc:callless o.op=true) {a:Act} {w:World} {K K':Act→World→Prop} (hK:∀ a w,K a w→K' a w) (h:o.wp P a w K (NQ Q)):o.wpIn F n P a w K' Q:=by
 have hab:∀ f,o.about P w a.eval=some f→F.fn f:=fun f hf=>by
  unfold Oper.about at hf
  cases ho:o.op <;> rw[ho] at hf hc <;> first | (cases hf;done) | (cases hc;done)
 refine⟨hab,?_⟩
 rw[Oper.semAt_eq _ _ _ fun c e=>by rw[e] at hc;cases hc]
 unfold Oper.wp at h
 cases hr:(execOp a.eval o).run P w with
 | ok nx w' =>
  rw[hr] at h
  rcases callless_run hc hr with ⟨v,rfl⟩ | rfl
  ·exact hK _ _ h
  ·exact hK _ _ h
 | halt e w' =>
  rw[hr] at h
  cases e <;> first | exact h.elim | (obtain⟨h1,_⟩:=h;cases h1)
theorem wpAnyIn_of (hops:∀ o,o∈ops→callless o.op=true):∀ (fuel:Nat) (L:Array Bool) (a:Act) (w:World),wpAny P md ops (NQ Q) fuel L a w→wpAnyIn F n P md ops Q fuel L a w
 | 0,L,a,w,h=>⟨h.1,h.2.2⟩
 | fuel+1,L,a,w,h=>by
  refine⟨fun e=>(h.1 e).2,fun i hi=>?_⟩
  have h1:=h.2 i hi
  unfold wpOp at h1
  unfold wpOpIn
  cases ho:ops[i]? with
  | none =>
   rw[ho] at h1
   exact wpAnyIn_of hops fuel _ _ _ h1
  | some o =>
   rw[ho] at h1
   dsimp only at h1 ⊢
   have hc:=hops o (Array.mem_of_getElem? ho)
   split at h1
   ·rename_i hw
    rw[if_pos hw]
    rcases h1 with h1 | ⟨_,h1⟩
    ·exact callless_wp hc (fun a w h=>wpAnyIn_of hops fuel _ _ _ h) h1
    ·exact absurd h1 NQ.no
   ·rename_i hw
    rw[if_neg hw]
    refine⟨fun f hf=>?_,wpAnyIn_of hops fuel _ _ _ h1⟩
    unfold Oper.about at hf
    cases hoo:o.op <;> rw[hoo] at hf hc <;> first | (cases hf;done) | (cases hc;done)
theorem wpIn_still_tail {id:Nat} {a:Act} {w:World} {l:List Oper} (k:Nat) (hm:P.follows .mixedOrders=true) (hB:Region.lexTailB .any l.toArray k=true) (hops:l.all (fun o=>callless o.op)=true)
  (h:wpStill P l.toArray { w with drawn:=w.drawn+1 } (fun a'=>wpList P l.toArray (NQ Q) (l.drop k) a' { w with drawn:=w.drawn+1 }) (l.take k) a):(Code.region id l.toArray true).wpIn F n P Q a w:=by
 simp only[Region.lexTailB,Bool.and_eq_true,decide_eq_true_eq] at hB
 obtain⟨⟨⟨⟨hsel,hn⟩,hs⟩,hc⟩,hlex⟩:=hB
 have hn':k < l.length:=by simpa using hn
 have htl:(l.take k).length=k:=by simp;omega
 have hdl:(l.drop k).length=l.toArray.size - k:=by simp
 have inv0:HeadInv .any l.toArray k (Array.replicate l.toArray.size false) :=
  ⟨by simp,fun j oj _ hl=>(by rw[getD_replicate_false] at hl;cases hl),fun t _ ht=>getD_in (by simpa using ht) (getD_replicate_false _ _)⟩
 have H:=wpAnyL_lex (md:=.any) (g:=l.toArray.size - k) hsel hs hc hn (l.take k) 0 _ a (fun j hj=>by
  have hj':j < k:=by rw[htl] at hj;exact hj
  simp[hj']) (by simpa using htl) inv0 (by rw[htl];exact hlex) h
 refine wpIn_region_any hm (wpAnyIn_of (fun o ho=>by simpa using List.all_eq_true.1 hops o (by simpa using ho)) _ _ _ _ ?_)
 have:=wpAny_of_head (Q':=NQ Q) (g:=l.toArray.size - k) (fun listed a' hL=>by
  have:=wpAny_of_seq (md:=.any) (Q':=NQ Q) (l.drop k) k listed a' { w with drawn:=w.drawn+1 } (fun j=>by simp[List.getElem?_drop]) (by rw[hdl];exact hL.1) hL.2
  rwa [hdl] at this) _ _ _ H
 rw[htl,show k+(l.toArray.size - k)=l.toArray.size by omega] at this
 exact this
end
/-- a guarded call that is passed over -/
theorem wpListIn_pass {F:Fence} {n:Nat} {P:Program} {ops:Array Oper} {Q:Exit→Act→World→Prop} {a:Act} {w:World} {rest:List Oper} {o:Oper} (hF:∀ f,F.fn f) (hw:Region.wanted o (yielded ops a.tmps)=false) (h:wpListIn F n P ops Q rest (a.put o.dst undef) w):wpListIn F n P ops Q (o::rest) a w:=by
 simp only[wpListIn,hw]
 exact⟨fun f _=>hF f,h⟩
end
section
open Go.RowKit Go.Sort Go.Shelf
attribute [local go_sem] Oper.semAt_some
theorem ownsRow_zero {w:World} {base:Nat} {e:TypeId} {size g cap n:Nat} {xs:List Value} (h:w.ownsRow base e size (.slice (some ⟨g,0,none⟩) n cap) n xs):w.ownsRow base e size (.slice (some ⟨g,0,none⟩) 0 cap) 0 []:=by
 obtain⟨_,h2⟩:=h
 rcases h2 with ⟨h0,_⟩ | ⟨g',cap',cur,hv,hg,hh,hn,hcap,hsz,htake⟩
 ·cases h0
 ·cases hv
  exact⟨by simp,.inr ⟨g,cap,cur,rfl,hg,hh,by omega,hcap,hsz,by simp⟩⟩
theorem row_ne {W:World} {row:Option Nat} {B k:Nat} {t:TypeId} {cs:Array Value} (h:Bk W k t cs) (hr:∀ r,row=some r→B≤r∧∃ o:Obj,W.heap[r]?=some o∧o.isCells=false):some k≠row:=fun e=>by
 obtain⟨_,o,ho,hc⟩:=hr _ e.symm
 unfold Bk at h
 rw[h] at ho
 cases ho
 cases hc
theorem ownF_bk {β:Type} {B k:Nat} {t:TypeId} {cs:Array Value}:OwnFrom B (fun(_:β) W=>Bk W k t cs):=fun s W W' row hs hg hr=>hs.grown hg (row_ne hs hr)
theorem ownF_spr {β:Type} {B Bs g:Nat} {s:Spc} {V:Value}:OwnFrom B (fun(_:β) W=>SpR W Bs g s V):=fun x W W' row hs hg hr=>hs.grown hg (row_ne hs.hd hr) fun k hk=>by
 obtain⟨cur,hc⟩:=hs.own_cells hk
 exact row_ne hc hr
theorem ownF_kp {β:Type} {B:Nat} {S:Nat→Prop} {w:World} (hB:w.heap.size≤B):OwnFrom B (fun(_:β) W=>Kp S w W):=fun x W W' row hs hg hr =>
 ⟨hg.os.trans hs.os,hg.tape.trans hs.tape,hg.output.trans hs.output,Nat.le_trans hs.size hg.size,fun k hk hn=>(hg.block k (Nat.lt_of_lt_of_le hk hs.size) fun e=>by have:=(hr _ e.symm).1;omega).trans (hs.block k hk hn)⟩
theorem ownF_const {β:Type} {B:Nat} {p:β→Prop}:OwnFrom B (fun x (_:World)=>p x):=fun _ _ _ _ hs _ _=>hs
/-- what Truncate at the base leaves -/
def TruP (w:World) (B g:Nat) (s:Spc) (V:Value) (e:Ending) (w':World):Prop :=
 e=.returned (.int .i64 0)∧∃ V',SpR w' B g { s with ws:=[] } V'∧(∀ k,V'.ownBlock=some k→V.ownBlock=some k)∧Kp (fun k=>k=g) w w'
section
variable {w:World} {B g:Nat} {s:Spc} {V:Value}
set_option maxHeartbeats 4000000 in
theorem Truncate_in (n:Nat) (hn:5≤n) (h:SpR w B g s V) (h0:s.size 0≠0) :
  CallsIn Fence.wide n Tryz.prog 61 #[.pointer (some ⟨g,0,none⟩),.int .i64 s.base] w (TruP w B g s V):=by
 have h1:1≤n:=by omega
 have hl1:=h.lim
 have hl2:=h.l0
 have hl0:=h.b0
 have hgl:=h.hd.lt
 have hvl:∀ k,V.ownBlock=some k→k < w.heap.size:=fun k hk=>(h.own.lt k hk).2
 have hws:0 < s.ws.length:=by
  have:=s.size_le 0
  omega
 obtain⟨bb,cap,rfl,hcap,hBb,hbl,hsl⟩:=ownSls h.own hws
 have hfirst:∃ r,s.rst 0=(s.base,true)::r:=⟨s.rst (0+s.size 0),by rw[s.rst_pos h0];simp⟩
 refine callsIn_of_wp_marks Tryz.func61 rfl trivial ?_ rfl
 simp only[Tryz.ntmps61,List.size_toArray,List.length_cons,List.length_nil,Nat.reduceAdd,Nat.reduceSub,Array.replicate_succ,Array.replicate_zero,List.push_toArray,List.append_toArray,List.nil_append,List.cons_append]
 gi_wp2_with fail
 refine⟨trivial,(toW (walk_any g _)).mono ?_⟩
 rintro e w' ⟨rfl,rfl⟩
 gi_wp2_with fail
 have hB0:Below w.heap.size w ((((w.alloc (.cells #[.pointer (some ⟨g,0,none⟩)] 27)).alloc (.cells #[.int .i64 s.base] 3)).alloc (.cells #[.int .i64 0] 47)).alloc (.cells #[.pointer (some ⟨g,0,none⟩)] 27)):=((((Below.refl _ w).alloc (Nat.le_refl _) _).alloc (by simp) _).alloc (by simp;omega) _).alloc (by simp;omega) _
 have hK2:Bk ((((w.alloc (.cells #[.pointer (some ⟨g,0,none⟩)] 27)).alloc (.cells #[.int .i64 s.base] 3)).alloc (.cells #[.int .i64 0] 47)).alloc (.cells #[.pointer (some ⟨g,0,none⟩)] 27)) w.heap.size 27 #[.pointer (some ⟨g,0,none⟩)]:=(((Bk.here _ _ _ (by simp)).alloc _).alloc _).alloc _
 have hK3:Bk ((((w.alloc (.cells #[.pointer (some ⟨g,0,none⟩)] 27)).alloc (.cells #[.int .i64 s.base] 3)).alloc (.cells #[.int .i64 0] 47)).alloc (.cells #[.pointer (some ⟨g,0,none⟩)] 27)) (w.heap.size+1) 3 #[.int .i64 s.base]:=((Bk.here _ _ _ (by simp)).alloc _).alloc _
 have hK4:Bk ((((w.alloc (.cells #[.pointer (some ⟨g,0,none⟩)] 27)).alloc (.cells #[.int .i64 s.base] 3)).alloc (.cells #[.int .i64 0] 47)).alloc (.cells #[.pointer (some ⟨g,0,none⟩)] 27)) (w.heap.size+1+1) 47 #[.int .i64 0]:=(Bk.here _ _ _ (by simp)).alloc _
 have hK5:Bk ((((w.alloc (.cells #[.pointer (some ⟨g,0,none⟩)] 27)).alloc (.cells #[.int .i64 s.base] 3)).alloc (.cells #[.int .i64 0] 47)).alloc (.cells #[.pointer (some ⟨g,0,none⟩)] 27)) (w.heap.size+1+1+1) 27 #[.pointer (some ⟨g,0,none⟩)]:=Bk.here _ _ _ (by simp)
 generalize ((((w.alloc (.cells #[.pointer (some ⟨g,0,none⟩)] 27)).alloc (.cells #[.int .i64 s.base] 3)).alloc (.cells #[.int .i64 0] 47)).alloc (.cells #[.pointer (some ⟨g,0,none⟩)] 27))=w4 at hB0 hK2 hK3 hK4 hK5 ⊢
 have hs4:=h.below hB0
 have hz4:=hK5.lt
 refine wpIn_rangeFunc_ownG rfl h1 (gf:=111) (lb:=#[.pointer (some ⟨w.heap.size+1+1+1,0,none⟩)]) rfl trivial (enters_of Tryz.func111 (by kernel_rfl) rfl)
  (walk_stops (n - 1) (by omega) _ ⟨hs4,hK5⟩) (fun h k hx=>k (h hx)) (fun W l o o' hl ho hc _ hq=>hq.putObj ho hc) (Below.refl _ _) (fun x=>by unfold enc2;rfl)
  (fun pre W=>(((∀ x∈pre,x.1=s.base→x.2=false)∧Bk W (w.heap.size+1+1) 47 #[.int .i64 0])∧Bk W w.heap.size 27 #[.pointer (some ⟨g,0,none⟩)])∧(Bk W (w.heap.size+1) 3 #[.int .i64 s.base]∧Bk W (w.heap.size+1+1+1) 27 #[.pointer (some ⟨g,0,none⟩)])∧Below w.heap.size w W)
  (fun c _ W=>(c=.ret∧Bk W (w.heap.size+1+1) 47 #[.int .i64 0])∧SpR W B g { s with ws:=[] } (.slice (some ⟨bb,0,none⟩) 0 cap)∧Kp (fun k=>k=g) w W)
  (OwnFrom.and (OwnFrom.and (OwnFrom.and ownF_const ownF_bk) ownF_bk) (OwnFrom.and (OwnFrom.and ownF_bk ownF_bk) (ownFrom_below (Nat.le_refl _) (by omega))))
  (fun c=>OwnFrom.and (OwnFrom.and (ownF_const (p:=fun _=>c=.ret)) ownF_bk) (OwnFrom.and ownF_spr (ownF_kp (by omega))))
  ⟨⟨⟨(fun x hx=>by cases hx),hK4⟩,hK2⟩,⟨hK3,hK5⟩,hB0⟩
  (fun x=>{ tmps:=#[.pointer (some ⟨g,0,none⟩),.int .i64 s.base,.pointer (some ⟨w.heap.size,0,none⟩),.pointer (some ⟨w.heap.size+1,0,none⟩),.pointer (some ⟨w.heap.size+1+1,0,none⟩),.int .i64 x.1,.bool x.2,.pointer (some ⟨g,0,none⟩),.func (.func 111) #[] #[.pointer (some ⟨w.heap.size+1+1+1,0,none⟩)],.int .i64 x.1,.bool x.2,undef,undef,undef,undef,undef,undef,undef,undef,undef,undef,undef,undef,undef,undef,undef,undef,undef,undef,undef,undef,undef,undef,undef,undef,undef,undef],defers:=[] }) ?assign ?body ?done ?stop
 case assign =>
  intro l x W K hK
  unfold enc2
  gi_wp2
  exact hK
 case body =>
  rintro l pre ⟨a,b⟩ W ⟨⟨⟨hpre,hb4⟩,hb2⟩,⟨hb3,hb5⟩,hB⟩ hlt
  have c2:=hb2.cell 0
  have c3:=hb3.cell 0
  have c4:=hb4.cell 0
  simp only[List.getElem?_toArray,List.getElem?_cons_zero] at c2 c3 c4
  have hsW:=h.below hB
  by_cases hab:a=s.base
  ·subst hab
   have cT:=(toW (n:=n - 1 - 1 - 1) (Top_any hsW)).inRound l
   have s0:=hsW.hd.cell 0
   have s2:=hsW.hd.cell 2
   have f2:=hsW.hd.free 2
   simp only[List.getElem?_toArray,List.getElem?_cons_zero,List.getElem?_cons_succ] at s0 s2
   have hw0:IntKind.i64.wrap 0=0:=rfl
   have hc0:(0:Int)≤(cap:Int):=by omega
   have hsub:IntKind.i64.wrap (s.base - s.base)=0:=by rw[Int.sub_self];rfl
   cases b with
   | true =>
    gi_wp2_with (refine wpListIn_pass (fun _=>trivial) rfl ?_)
    refine wpIn_still_tail 12 (by kernel_rfl) (by kernel_rfl) (by rfl) ?_
    simp only[List.take_succ_cons,List.take_zero,List.drop_succ_cons,List.drop_zero]
    repeat still_step
    try refine wpStill_nil ?_
    change wpList _ _ _ _ _ W.drew
    go_wp2_with fail
    refine⟨rfl,?_⟩
    have c6:((W.setCell ⟨g,2,none⟩ (.slice (some ⟨bb,0,none⟩) 0 cap)).drew).cell? ⟨w.heap.size+1+1,0,none⟩=some (.int .i64 0):=(hb4.far (p:=⟨g,2,none⟩) (by show w.heap.size+1+1≠g;omega) _).cell 0
    have f6:((W.setCell ⟨g,2,none⟩ (.slice (some ⟨bb,0,none⟩) 0 cap)).drew).frozen? ⟨w.heap.size+1+1,0,none⟩=false:=(hb4.far (p:=⟨g,2,none⟩) (by show w.heap.size+1+1≠g;omega) _).free 0
    gi_wp2_with fail
    have hbg:bb≠g:=fun e=>hsW.hd_ne (by rw[e];rfl)
    refine⟨⟨by simp[World.setCell,World.drew],fun k o hk ho _=>?_⟩,⟨rfl,?_⟩,⟨?_,?_,hsW.ge,(fun x hx=>by cases hx),hsW.b0,(by show s.base+((0:Nat):Int)≤s.limit;omega),hsW.l0⟩,?_⟩
    ·have hkl:k < W.heap.size:=(Array.getElem?_eq_some_iff.1 ho).1
     exact(Below.heap_setCell (W.setCell ⟨g,2,none⟩ (.slice (some ⟨bb,0,none⟩) 0 cap)) ⟨w.heap.size+1+1,0,none⟩ (.int .i64 0) k (by show k≠w.heap.size+1+1;omega)).trans ((Below.heap_setCell W ⟨g,2,none⟩ _ k (by show k≠g;omega)).trans ho)
    ·exact(hb4.far (p:=⟨g,2,none⟩) (by show w.heap.size+1+1≠g;omega) _).set 0 _
    ·exact(hsW.hd.set 2 (.slice (some ⟨bb,0,none⟩) 0 cap)).far (p:=⟨w.heap.size+1+1,0,none⟩) (by show g≠w.heap.size+1+1;omega) _
    ·refine own_local (ownsRow_zero hsW.own) fun k hk=>?_
     cases hk
     exact(Below.heap_setCell (W.setCell ⟨g,2,none⟩ (.slice (some ⟨bb,0,none⟩) 0 cap)) ⟨w.heap.size+1+1,0,none⟩ (.int .i64 0) bb (by show bb≠w.heap.size+1+1;omega)).trans (Below.heap_setCell W ⟨g,2,none⟩ _ bb hbg)
    ·refine(((Kp.of_below (S:=fun k=>k=g) (Below.refl _ w)).trans (T:=fun k=>k=g) (w1:=w) ?_ fun _ _ e=>e))
     have k1:=(Kp.setCell (S:=fun k=>k=g ∨ k=w.heap.size+1+1) W ⟨g,2,none⟩ (.slice (some ⟨bb,0,none⟩) 0 cap) (.inl rfl)).drew
     have k2:=k1.trans (Kp.setCell (S:=fun k=>k=g ∨ k=w.heap.size+1+1) _ ⟨w.heap.size+1+1,0,none⟩ (.int .i64 0) (.inr rfl)) fun _ _ e=>e
     have k3:Kp (fun k=>k=g) w W:=⟨hB.os,hB.tape,hB.output,hB.size,fun k hk _=>hB.block k hk⟩
     exact k3.trans k2 fun k hk e=>e.resolve_right (by omega)
   | false =>
    have e2:(s.base == s.top)=false:=by simp[Spc.top];omega
    gi_wp2_with (refine wpListIn_pass (fun _=>trivial) rfl ?_)
    refine⟨trivial,nofun,cT.mono ?_⟩
    rintro e W2 ⟨rfl,hbT⟩
    gi_wp2_with fail
    exact⟨(KeepsOthers.of_grownBy (grownBy_of_below hbT) (fun _ _ e=>by cases e)).from _,fun hq=>hq.below hbT,⟨⟨fun x hx he=>by
     rcases List.mem_append.1 hx with hx | hx
     ·exact hpre x hx he
     ·rw[List.mem_singleton.1 hx],hb4.below hbT hb4.lt⟩,hb2.below hbT hb2.lt⟩,⟨hb3.below hbT hb3.lt,hb5.below hbT hb5.lt⟩,hB.trans (hbT.mono hB.size)⟩
  ·have e1:(a == s.base)=false:=by simp[hab]
   gi_wp2_with (refine wpListIn_pass (fun _=>trivial) rfl ?_)
   exact⟨KeepsFrom.refl _ _,fun hq=>hq,⟨⟨fun x hx he=>by
    rcases List.mem_append.1 hx with hx | hx
    ·exact hpre x hx he
    ·rw[List.mem_singleton.1 hx] at he
     exact absurd he hab,hb4⟩,hb2⟩,⟨hb3,hb5⟩,hB⟩
 case done =>
  rintro D ys W hD rfl ⟨⟨⟨hpre,hb4⟩,hb2⟩,⟨hb3,hb5⟩,hB⟩ hK
  obtain⟨r,hr⟩:=hfirst
  have:=hpre (s.base,true) (by rw[hr];exact List.mem_cons_self ..) rfl
  cases this
 case stop =>
  rintro D c pre W hD hSp ⟨⟨rfl,hb4⟩,hsp,hkp⟩ hK
  have c4:=hb4.cell 0
  simp only[List.getElem?_toArray,List.getElem?_cons_zero] at c4
  gi_wp2
  refine⟨by simp,.inl ⟨_,_,rfl,run_takeDeferred hK,?_⟩⟩
  have hno:∀ {k:Nat} {t:TypeId} {cs:Array Value},Bk W k t cs→some k≠some D:=fun {k t cs} hk e=>by
   injection e with e
   unfold Bk at hk
   rw[e,hK] at hk
   cases hk
  have hg:=grownBy_putObj' W D (.deferred none)
  have c5:(W.putObj D (.deferred none)).cell? ⟨w.heap.size+1+1,0,none⟩=some (.int .i64 0):=(hb4.grown hg (hno hb4)).cell 0
  refine⟨.int .i64 0,by simp[results,Tryz.results61,go_sem,c5],rfl,.slice (some ⟨bb,0,none⟩) 0 cap,?_,fun k hk=>hk,?_⟩
  ·refine hsp.grown hg (hno hsp.hd) fun k hk=>?_
   obtain⟨cur,hc⟩:=hsp.own_cells hk
   exact hno hc
  ·exact⟨hg.os.trans hkp.os,hg.tape.trans hkp.tape,hg.output.trans hkp.output,Nat.le_trans hkp.size hg.size,fun k hk hn=>(hg.block k (Nat.lt_of_lt_of_le hk hkp.size) fun e=>by injection e with e;omega).trans (hkp.block k hk hn)⟩
theorem Truncate_base (h:SpR w B g s V) (h0:s.size 0≠0):Calls Tryz.prog 61 #[.pointer (some ⟨g,0,none⟩),.int .i64 s.base] w (TruP w B g s V):=callsIn_wide.1 (Truncate_in 5 (by omega) h h0)
def Spc.chk (s:Spc):Int:=if s.walk.2=s.ws.length then 0 else 11
theorem rst_false {s:Spc} {x:Int × Bool} (hx:x∈s.rst 0) (h:x.2=false):x.1=s.base+(s.walk.2:Int):=by
 unfold Spc.rst at hx
 rcases List.mem_append.1 hx with hx | hx
 ·obtain⟨j,_,rfl⟩:=List.mem_map.1 hx
  cases h
 ·rw[List.mem_singleton.1 hx]
  rfl
theorem rst_last (s:Spc):(s.base+(s.walk.2:Int),false)∈s.rst 0:=by
 unfold Spc.rst
 exact List.mem_append_right _ (List.mem_singleton.2 rfl)
set_option maxHeartbeats 4000000 in
theorem Check_in (n:Nat) (hn:5≤n) (h:SpR w B g s V) :
  CallsIn Fence.wide n Tryz.prog 37 #[.pointer (some ⟨g,0,none⟩)] w (fun e w'=>e=.returned (.int .i64 s.chk)∧Below w.heap.size w w'):=by
 have h1:1≤n:=by omega
 refine callsIn_of_wp_marks Tryz.func37 rfl trivial ?_ rfl
 simp only[Tryz.ntmps37,List.size_toArray,List.length_cons,List.length_nil,Nat.reduceAdd,Nat.reduceSub,Array.replicate_succ,Array.replicate_zero,List.push_toArray,List.append_toArray,List.nil_append,List.cons_append]
 gi_wp2_with fail
 refine⟨trivial,(toW (walk_any g _)).mono ?_⟩
 rintro e w' ⟨rfl,rfl⟩
 gi_wp2_with fail
 have hB0:Below w.heap.size w (((w.alloc (.cells #[.pointer (some ⟨g,0,none⟩)] 27)).alloc (.cells #[.int .i64 0] 47)).alloc (.cells #[.pointer (some ⟨g,0,none⟩)] 27)):=(((Below.refl _ w).alloc (Nat.le_refl _) _).alloc (by simp) _).alloc (by simp;omega) _
 have hK2:Bk (((w.alloc (.cells #[.pointer (some ⟨g,0,none⟩)] 27)).alloc (.cells #[.int .i64 0] 47)).alloc (.cells #[.pointer (some ⟨g,0,none⟩)] 27)) w.heap.size 27 #[.pointer (some ⟨g,0,none⟩)]:=((Bk.here _ _ _ (by simp)).alloc _).alloc _
 have hK4:Bk (((w.alloc (.cells #[.pointer (some ⟨g,0,none⟩)] 27)).alloc (.cells #[.int .i64 0] 47)).alloc (.cells #[.pointer (some ⟨g,0,none⟩)] 27)) (w.heap.size+1) 47 #[.int .i64 0]:=(Bk.here _ _ _ (by simp)).alloc _
 have hK5:Bk (((w.alloc (.cells #[.pointer (some ⟨g,0,none⟩)] 27)).alloc (.cells #[.int .i64 0] 47)).alloc (.cells #[.pointer (some ⟨g,0,none⟩)] 27)) (w.heap.size+1+1) 27 #[.pointer (some ⟨g,0,none⟩)]:=Bk.here _ _ _ (by simp)
 generalize (((w.alloc (.cells #[.pointer (some ⟨g,0,none⟩)] 27)).alloc (.cells #[.int .i64 0] 47)).alloc (.cells #[.pointer (some ⟨g,0,none⟩)] 27))=w4 at hB0 hK2 hK4 hK5 ⊢
 have hs4:=h.below hB0
 have hz4:=hK5.lt
 refine wpIn_rangeFunc_ownG rfl h1 (gf:=111) (lb:=#[.pointer (some ⟨w.heap.size+1+1,0,none⟩)]) rfl trivial (enters_of Tryz.func111 (by kernel_rfl) rfl)
  (walk_stops (n - 1) (by omega) _ ⟨hs4,hK5⟩) (fun h k hx=>k (h hx)) (fun W l o o' hl ho hc _ hq=>hq.putObj ho hc) (Below.refl _ _) (fun x=>by unfold enc2;rfl)
  (fun pre W=>(((∀ x∈pre,x.2=false→x.1=s.top)∧Bk W (w.heap.size+1) 47 #[.int .i64 0])∧Bk W w.heap.size 27 #[.pointer (some ⟨g,0,none⟩)])∧Below w.heap.size w W)
  (fun c pre W=>((c=.ret∧∃ x∈pre,x.2=false∧x.1≠s.top)∧Bk W (w.heap.size+1) 47 #[.int .i64 11])∧Below w.heap.size w W)
  (OwnFrom.and (OwnFrom.and (OwnFrom.and ownF_const ownF_bk) ownF_bk) (ownFrom_below (Nat.le_refl _) (by omega)))
  (fun c=>OwnFrom.and (OwnFrom.and (ownF_const (p:=fun(pre:List (Int × Bool))=>c=.ret∧∃ x∈pre,x.2=false∧x.1≠s.top)) ownF_bk) (ownFrom_below (Nat.le_refl _) (by omega)))
  ⟨⟨⟨(fun x hx=>by cases hx),hK4⟩,hK2⟩,hB0⟩
  (fun x=>{ tmps:=#[.pointer (some ⟨g,0,none⟩),.pointer (some ⟨w.heap.size,0,none⟩),.pointer (some ⟨w.heap.size+1,0,none⟩),.int .i64 x.1,.bool x.2,.pointer (some ⟨g,0,none⟩),.func (.func 111) #[] #[.pointer (some ⟨w.heap.size+1+1,0,none⟩)],.int .i64 x.1,.bool x.2,undef,undef,undef,undef,undef,undef,undef,undef],defers:=[] }) ?assign ?body ?done ?stop
 case assign =>
  intro l x W K hK
  unfold enc2
  gi_wp2
  exact hK
 case body =>
  rintro l pre ⟨a,b⟩ W ⟨⟨⟨hpre,hb4⟩,hb2⟩,hB⟩ hlt
  have c2:=hb2.cell 0
  have c4:=hb4.cell 0
  simp only[List.getElem?_toArray,List.getElem?_cons_zero] at c2 c4
  have hsW:=h.below hB
  have cT:=(toW (n:=n - 1 - 1 - 1) (Top_any hsW)).inRound l
  cases b with
  | true =>
   gi_wp2_with (refine wpListIn_pass (fun _=>trivial) rfl ?_)
   exact⟨KeepsFrom.refl _ _,fun hq=>hq,⟨⟨fun x hx he=>by
    rcases List.mem_append.1 hx with hx | hx
    ·exact hpre x hx he
    ·rw[List.mem_singleton.1 hx] at he
     exact Bool.noConfusion he,hb4⟩,hb2⟩,hB⟩
  | false =>
   by_cases hat:a=s.top
   ·have e2:(a != s.top)=false:=by simp[hat]
    gi_wp2_with (refine wpListIn_pass (fun _=>trivial) rfl ?_)
    refine⟨trivial,nofun,cT.mono ?_⟩
    rintro e W2 ⟨rfl,hbT⟩
    gi_wp2_with fail
    exact⟨(KeepsOthers.of_grownBy (grownBy_of_below hbT) (fun _ _ e=>by cases e)).from _,fun hq=>hq.below hbT,⟨⟨fun x hx he=>by
     rcases List.mem_append.1 hx with hx | hx
     ·exact hpre x hx he
     ·rw[List.mem_singleton.1 hx];exact hat,hb4.below hbT hb4.lt⟩,hb2.below hbT hb2.lt⟩,hB.trans (hbT.mono hB.size)⟩
   ·have e2:(a != s.top)=true:=by simp[hat]
    gi_wp2_with (refine wpListIn_pass (fun _=>trivial) rfl ?_)
    refine⟨trivial,nofun,cT.mono ?_⟩
    rintro e W2 ⟨rfl,hbT⟩
    have hb4':=hb4.below hbT hb4.lt
    have c4':=hb4'.cell 0
    have f4':=hb4'.free 0
    simp only[List.getElem?_toArray,List.getElem?_cons_zero] at c4'
    gi_wp2_with fail
    refine⟨⟨by simp[World.setCell];exact hbT.size,fun k o hk ho _=>?_⟩,⟨⟨rfl,(a,false),List.mem_append_right _ (List.mem_singleton.2 rfl),rfl,hat⟩,hb4'.set 0 _⟩,(hB.trans (hbT.mono hB.size)).setCell (p:=⟨w.heap.size+1,0,none⟩) (by show w.heap.size≤w.heap.size+1;omega) _⟩
    have hkl:k < W.heap.size:=(Array.getElem?_eq_some_iff.1 ho).1
    exact(Below.heap_setCell W2 ⟨w.heap.size+1,0,none⟩ (.int .i64 11) k (by show k≠w.heap.size+1;omega)).trans ((hbT.block k hkl).trans ho)
 case done =>
  rintro D ys W hD rfl ⟨⟨⟨hpre,hb4⟩,hb2⟩,hB⟩ hK
  have hres:s.chk=0:=by
   have:=hpre _ (rst_last s) rfl
   unfold Spc.chk
   rw[if_pos]
   unfold Spc.top at this
   dsimp only at this
   omega
  have hno:∀ {k:Nat} {t:TypeId} {cs:Array Value},Bk W k t cs→some k≠some D:=fun {k t cs} hk e=>by
   injection e with e
   unfold Bk at hk
   rw[e,hK] at hk
   cases hk
  have c4:=hb4.cell 0
  have f4:=hb4.free 0
  simp only[List.getElem?_toArray,List.getElem?_cons_zero] at c4
  have hK':(W.setCell ⟨w.heap.size+1,0,none⟩ (.int .i64 0)).heap[D]?=some (.deferred (some [])):=(Below.heap_setCell W _ _ D (by show D≠w.heap.size+1;omega)).trans hK
  gi_wp2_with fail
  refine⟨by simp,.inl ⟨_,_,rfl,run_takeDeferred hK',?_⟩⟩
  have hb4':=hb4.set 0 (.int .i64 0)
  have hno':some (w.heap.size+1)≠some D:=hno hb4
  have hg:=grownBy_putObj' (W.setCell ⟨w.heap.size+1,0,none⟩ (.int .i64 0)) D (.deferred none)
  have c5:((W.setCell ⟨w.heap.size+1,0,none⟩ (.int .i64 0)).putObj D (.deferred none)).cell? ⟨w.heap.size+1,0,none⟩=some (.int .i64 0):=(hb4'.grown hg hno').cell 0
  have hB2:Below w.heap.size w (W.setCell ⟨w.heap.size+1,0,none⟩ (.int .i64 0)):=hB.setCell (p:=⟨w.heap.size+1,0,none⟩) (by show w.heap.size≤w.heap.size+1;omega) _
  exact⟨.int .i64 0,by simp[results,Tryz.results37,go_sem,c5],by rw[hres],hB2.trans (belowK_b (w:=w) (Nat.le_refl _) _ D _ _ (by omega) hK' rfl rfl)⟩
 case stop =>
  rintro D c pre W hD hSp ⟨⟨⟨rfl,x,hx,hx2,hx1⟩,hb4⟩,hB⟩ hK
  have hres:s.chk=11:=by
   have h3:=rst_false (hSp.subset hx) hx2
   unfold Spc.chk
   rw[if_neg]
   intro e
   unfold Spc.top at hx1
   exact hx1 (by rw[h3,e])
  gi_wp2
  refine⟨by simp,.inl ⟨_,_,rfl,run_takeDeferred hK,?_⟩⟩
  have hno:some (w.heap.size+1)≠some D:=fun e=>by
   injection e with e
   unfold Bk at hb4
   rw[e,hK] at hb4
   cases hb4
  have hg:=grownBy_putObj' W D (.deferred none)
  have c5:(W.putObj D (.deferred none)).cell? ⟨w.heap.size+1,0,none⟩=some (.int .i64 11):=(hb4.grown hg hno).cell 0
  exact⟨.int .i64 11,by simp[results,Tryz.results37,go_sem,c5],by rw[hres],hB.trans (belowK_b (w:=w) (Nat.le_refl _) W D _ _ (by omega) hK rfl rfl)⟩
theorem Check_any (h:SpR w B g s V):Calls Tryz.prog 37 #[.pointer (some ⟨g,0,none⟩)] w (fun e w'=>e=.returned (.int .i64 s.chk)∧Below w.heap.size w w'):=callsIn_wide.1 (Check_in 5 (by omega) h)
end
end
section
open Go.RowKit Go.Sort Go.Shelf
attribute [local go_sem] Oper.semAt_some
theorem walk_zero {s:Spc} (h0:s.ws=[]):s.walk.2=0:=by
 have e:s.walk=s.walkFrom 0:=rfl
 rw[e,Spc.walkFrom_zero s (i:=0) (by have:=s.size_le 0;rw[h0] at this;simp at this;omega)]
section
variable {w W:World} {B g:Nat} {s:Spc} {V:Value}
theorem keepsF {n:Nat} {W W1 W2:World} (h:KeepsFrom n W W1) (h':KeepsFrom n W1 W2):KeepsFrom n W W2:=h.trans h'
theorem truncE_end (hsW:SpR W B g s V) (hb4:Bk W (w.heap.size+1+1) 47 #[.int .i64 0]) (hB:Below w.heap.size w W) (hgl:g < w.heap.size) (hvl:∀ k,V.ownBlock=some k→k < w.heap.size) {N:Nat} (hN:w.heap.size+1+1 < N) :
  KeepsFrom N W (((W.setCell ⟨g,2,none⟩ V).setCell ⟨w.heap.size+1+1,0,none⟩ (.int .i64 0)).drew)∧(Exit.ret=.ret∧Bk (((W.setCell ⟨g,2,none⟩ V).setCell ⟨w.heap.size+1+1,0,none⟩ (.int .i64 0)).drew) (w.heap.size+1+1) 47 #[.int .i64 0])∧SpR (((W.setCell ⟨g,2,none⟩ V).setCell ⟨w.heap.size+1+1,0,none⟩ (.int .i64 0)).drew) B g s V∧Kp (fun k=>k=g) w (((W.setCell ⟨g,2,none⟩ V).setCell ⟨w.heap.size+1+1,0,none⟩ (.int .i64 0)).drew):=by
 have hbg:∀ k,V.ownBlock=some k→k≠g:=fun k hk e=>hsW.hd_ne (by rw[hk,e])
 refine⟨⟨by simp[World.setCell,World.drew],fun k o hk ho _=>?_⟩,⟨rfl,?_⟩,⟨?_,?_,hsW.ge,hsW.u,hsW.b0,hsW.lim,hsW.l0⟩,?_⟩
 ·have hkl:k < W.heap.size:=(Array.getElem?_eq_some_iff.1 ho).1
  exact(Below.heap_setCell (W.setCell ⟨g,2,none⟩ V) ⟨w.heap.size+1+1,0,none⟩ (.int .i64 0) k (by show k≠w.heap.size+1+1;omega)).trans ((Below.heap_setCell W ⟨g,2,none⟩ _ k (by show k≠g;omega)).trans ho)
 ·exact(hb4.far (p:=⟨g,2,none⟩) (by show w.heap.size+1+1≠g;omega) _).set 0 _
 ·exact(hsW.hd.set 2 V).far (p:=⟨w.heap.size+1+1,0,none⟩) (by show g≠w.heap.size+1+1;omega) _
 ·refine own_local hsW.own fun k hk=>?_
  have:=hvl k hk
  exact(Below.heap_setCell (W.setCell ⟨g,2,none⟩ V) ⟨w.heap.size+1+1,0,none⟩ (.int .i64 0) k (by show k≠w.heap.size+1+1;omega)).trans (Below.heap_setCell W ⟨g,2,none⟩ _ k (hbg k hk))
 ·have k1:=Kp.setCell (S:=fun k=>k=g ∨ k=w.heap.size+1+1) W ⟨g,2,none⟩ V (.inl rfl)
  have k2:=(k1.trans (Kp.setCell (S:=fun k=>k=g ∨ k=w.heap.size+1+1) _ ⟨w.heap.size+1+1,0,none⟩ (.int .i64 0) (.inr rfl)) fun _ _ e=>e).drew
  have k3:Kp (fun k=>k=g) w W:=⟨hB.os,hB.tape,hB.output,hB.size,fun k hk _=>hB.block k hk⟩
  exact k3.trans k2 fun k hk e=>e.resolve_right (by omega)
end
section
variable {w:World} {B g:Nat} {s:Spc} {V:Value}
set_option maxHeartbeats 4000000 in
theorem TruncE_in (n:Nat) (hn:5≤n) (h:SpR w B g s V) (h0:s.ws=[]) :
  CallsIn Fence.wide n Tryz.prog 61 #[.pointer (some ⟨g,0,none⟩),.int .i64 s.base] w (TruP w B g s V):=by
 have h1:1≤n:=by omega
 have hl1:=h.lim
 have hl2:=h.l0
 have hl0:=h.b0
 have hgl:=h.hd.lt
 have hvl:∀ k,V.ownBlock=some k→k < w.heap.size:=fun k hk=>(h.own.lt k hk).2
 have hwl:s.ws.length=0:=by rw[h0];rfl
 have htop:s.top=s.base:=by unfold Spc.top;rw[hwl];simp
 have hV:V=.slice none 0 0 ∨ ∃ bb cap,V=.slice (some ⟨bb,0,none⟩) 0 cap:=by
  obtain⟨_,⟨h1,_⟩ | ⟨g',cap',cur,hv,_⟩⟩:=h.own
  ·exact .inl h1
  ·rw[hwl] at hv;exact .inr ⟨g',cap',hv⟩
 have hse:({ s with ws:=[] }:Spc)=s:=by cases s;cases h0;rfl
 unfold TruP
 rw[hse]
 refine callsIn_of_wp_marks Tryz.func61 rfl trivial ?_ rfl
 simp only[Tryz.ntmps61,List.size_toArray,List.length_cons,List.length_nil,Nat.reduceAdd,Nat.reduceSub,Array.replicate_succ,Array.replicate_zero,List.push_toArray,List.append_toArray,List.nil_append,List.cons_append]
 gi_wp2_with fail
 refine⟨trivial,(toW (walk_any g _)).mono ?_⟩
 rintro e w' ⟨rfl,rfl⟩
 gi_wp2_with fail
 have hB0:Below w.heap.size w ((((w.alloc (.cells #[.pointer (some ⟨g,0,none⟩)] 27)).alloc (.cells #[.int .i64 s.base] 3)).alloc (.cells #[.int .i64 0] 47)).alloc (.cells #[.pointer (some ⟨g,0,none⟩)] 27)):=((((Below.refl _ w).alloc (Nat.le_refl _) _).alloc (by simp) _).alloc (by simp;omega) _).alloc (by simp;omega) _
 have hK2:Bk ((((w.alloc (.cells #[.pointer (some ⟨g,0,none⟩)] 27)).alloc (.cells #[.int .i64 s.base] 3)).alloc (.cells #[.int .i64 0] 47)).alloc (.cells #[.pointer (some ⟨g,0,none⟩)] 27)) w.heap.size 27 #[.pointer (some ⟨g,0,none⟩)]:=(((Bk.here _ _ _ (by simp)).alloc _).alloc _).alloc _
 have hK3:Bk ((((w.alloc (.cells #[.pointer (some ⟨g,0,none⟩)] 27)).alloc (.cells #[.int .i64 s.base] 3)).alloc (.cells #[.int .i64 0] 47)).alloc (.cells #[.pointer (some ⟨g,0,none⟩)] 27)) (w.heap.size+1) 3 #[.int .i64 s.base]:=((Bk.here _ _ _ (by simp)).alloc _).alloc _
 have hK4:Bk ((((w.alloc (.cells #[.pointer (some ⟨g,0,none⟩)] 27)).alloc (.cells #[.int .i64 s.base] 3)).alloc (.cells #[.int .i64 0] 47)).alloc (.cells #[.pointer (some ⟨g,0,none⟩)] 27)) (w.heap.size+1+1) 47 #[.int .i64 0]:=(Bk.here _ _ _ (by simp)).alloc _
 have hK5:Bk ((((w.alloc (.cells #[.pointer (some ⟨g,0,none⟩)] 27)).alloc (.cells #[.int .i64 s.base] 3)).alloc (.cells #[.int .i64 0] 47)).alloc (.cells #[.pointer (some ⟨g,0,none⟩)] 27)) (w.heap.size+1+1+1) 27 #[.pointer (some ⟨g,0,none⟩)]:=Bk.here _ _ _ (by simp)
 generalize ((((w.alloc (.cells #[.pointer (some ⟨g,0,none⟩)] 27)).alloc (.cells #[.int .i64 s.base] 3)).alloc (.cells #[.int .i64 0] 47)).alloc (.cells #[.pointer (some ⟨g,0,none⟩)] 27))=w4 at hB0 hK2 hK3 hK4 hK5 ⊢
 have hs4:=h.below hB0
 have hz4:=hK5.lt
 refine wpIn_rangeFunc_ownG rfl h1 (gf:=111) (lb:=#[.pointer (some ⟨w.heap.size+1+1+1,0,none⟩)]) rfl trivial (enters_of Tryz.func111 (by kernel_rfl) rfl)
  (walk_stops (n - 1) (by omega) _ ⟨hs4,hK5⟩) (fun h k hx=>k (h hx)) (fun W l o o' hl ho hc _ hq=>hq.putObj ho hc) (Below.refl _ _) (fun x=>by unfold enc2;rfl)
  (fun pre W=>(((∀ x∈pre,x.1≠s.base)∧Bk W (w.heap.size+1+1) 47 #[.int .i64 0])∧Bk W w.heap.size 27 #[.pointer (some ⟨g,0,none⟩)])∧(Bk W (w.heap.size+1) 3 #[.int .i64 s.base]∧Bk W (w.heap.size+1+1+1) 27 #[.pointer (some ⟨g,0,none⟩)])∧Below w.heap.size w W)
  (fun c _ W=>(c=.ret∧Bk W (w.heap.size+1+1) 47 #[.int .i64 0])∧SpR W B g s V∧Kp (fun k=>k=g) w W)
  (OwnFrom.and (OwnFrom.and (OwnFrom.and ownF_const ownF_bk) ownF_bk) (OwnFrom.and (OwnFrom.and ownF_bk ownF_bk) (ownFrom_below (Nat.le_refl _) (by omega))))
  (fun c=>OwnFrom.and (OwnFrom.and (ownF_const (p:=fun _=>c=.ret)) ownF_bk) (OwnFrom.and ownF_spr (ownF_kp (by omega))))
  ⟨⟨⟨(fun x hx=>by cases hx),hK4⟩,hK2⟩,⟨hK3,hK5⟩,hB0⟩
  (fun x=>{ tmps:=#[.pointer (some ⟨g,0,none⟩),.int .i64 s.base,.pointer (some ⟨w.heap.size,0,none⟩),.pointer (some ⟨w.heap.size+1,0,none⟩),.pointer (some ⟨w.heap.size+1+1,0,none⟩),.int .i64 x.1,.bool x.2,.pointer (some ⟨g,0,none⟩),.func (.func 111) #[] #[.pointer (some ⟨w.heap.size+1+1+1,0,none⟩)],.int .i64 x.1,.bool x.2,undef,undef,undef,undef,undef,undef,undef,undef,undef,undef,undef,undef,undef,undef,undef,undef,undef,undef,undef,undef,undef,undef,undef,undef,undef,undef],defers:=[] }) ?assign ?body ?done ?stop
 case assign =>
  intro l x W K hK
  unfold enc2
  gi_wp2
  exact hK
 case body =>
  rintro l pre ⟨a,b⟩ W ⟨⟨⟨hpre,hb4⟩,hb2⟩,⟨hb3,hb5⟩,hB⟩ hlt
  have c2:=hb2.cell 0
  have c3:=hb3.cell 0
  have c4:=hb4.cell 0
  simp only[List.getElem?_toArray,List.getElem?_cons_zero] at c2 c3 c4
  have hsW:=h.below hB
  by_cases hab:a=s.base
  ·subst hab
   have s0:=hsW.hd.cell 0
   have s2:=hsW.hd.cell 2
   have f2:=hsW.hd.free 2
   simp only[List.getElem?_toArray,List.getElem?_cons_zero,List.getElem?_cons_succ] at s0 s2
   have hw0:IntKind.i64.wrap 0=0:=rfl
   have hsub:IntKind.i64.wrap (s.base - s.base)=0:=by rw[Int.sub_self];rfl
   have hsub:IntKind.i64.wrap (s.base - s.base)=0:=by rw[Int.sub_self];rfl
   have e2:(s.base == s.base)=true:=by simp
   have HSW:=lh hsW
   have HB4:=lh hb4
   have HBB:=lh hB
   cases b with
   | true =>
    rcases hV with rfl | ⟨bb,cap,rfl⟩
    ·have hc0:(0:Int)≤(0:Int):=by omega
     gi_wp2_with (refine wpListIn_pass (fun _=>trivial) rfl ?_)
     refine wpIn_still_tail 12 (by kernel_rfl) (by kernel_rfl) (by rfl) ?_
     simp only[List.take_succ_cons,List.take_zero,List.drop_succ_cons,List.drop_zero]
     repeat still_step
     try refine wpStill_nil ?_
     change wpList _ _ _ _ _ W.drew
     go_wp2_with fail
     refine⟨rfl,?_⟩
     have c6:((W.setCell ⟨g,2,none⟩ (.slice none 0 0)).drew).cell? ⟨w.heap.size+1+1,0,none⟩=some (.int .i64 0):=(HB4.out.far (p:=⟨g,2,none⟩) (by show w.heap.size+1+1≠g;omega) _).cell 0
     have f6:((W.setCell ⟨g,2,none⟩ (.slice none 0 0)).drew).frozen? ⟨w.heap.size+1+1,0,none⟩=false:=(HB4.out.far (p:=⟨g,2,none⟩) (by show w.heap.size+1+1≠g;omega) _).free 0
     gi_wp2_with fail
     have hend:=truncE_end HSW.out HB4.out HBB.out hgl hvl (N:=w4.heap.size) (by omega)
     exact⟨hend.1,⟨rfl,hend.2.1.2⟩,hend.2.2.1,hend.2.2.2⟩
    ·have hc0:(0:Int)≤(cap:Int):=by omega
     gi_wp2_with (refine wpListIn_pass (fun _=>trivial) rfl ?_)
     refine wpIn_still_tail 12 (by kernel_rfl) (by kernel_rfl) (by rfl) ?_
     simp only[List.take_succ_cons,List.take_zero,List.drop_succ_cons,List.drop_zero]
     repeat still_step
     try refine wpStill_nil ?_
     change wpList _ _ _ _ _ W.drew
     go_wp2_with fail
     refine⟨rfl,?_⟩
     have c6:((W.setCell ⟨g,2,none⟩ (.slice (some ⟨bb,0,none⟩) 0 cap)).drew).cell? ⟨w.heap.size+1+1,0,none⟩=some (.int .i64 0):=(HB4.out.far (p:=⟨g,2,none⟩) (by show w.heap.size+1+1≠g;omega) _).cell 0
     have f6:((W.setCell ⟨g,2,none⟩ (.slice (some ⟨bb,0,none⟩) 0 cap)).drew).frozen? ⟨w.heap.size+1+1,0,none⟩=false:=(HB4.out.far (p:=⟨g,2,none⟩) (by show w.heap.size+1+1≠g;omega) _).free 0
     gi_wp2_with fail
     have hend:=truncE_end HSW.out HB4.out HBB.out hgl hvl (N:=w4.heap.size) (by omega)
     exact⟨hend.1,⟨rfl,hend.2.1.2⟩,hend.2.2.1,hend.2.2.2⟩
   | false =>
    have cT:=(toW (n:=n - 1 - 1 - 1) (Top_any hsW)).inRound l
    have e3:(s.base == s.top)=true:=by rw[htop];simp
    rcases hV with rfl | ⟨bb,cap,rfl⟩
    ·have hc0:(0:Int)≤(0:Int):=by omega
     gi_wp2_with (refine wpListIn_pass (fun _=>trivial) rfl ?_)
     refine⟨trivial,nofun,cT.mono ?_⟩
     rintro e W2 ⟨rfl,hbT⟩
     have HSW:=lh (hsW.below hbT)
     have HB4:=lh (hb4.below hbT hb4.lt)
     have HBB:=lh (hB.trans (hbT.mono hB.size))
     have HKF:=lh ((KeepsOthers.of_grownBy (grownBy_of_below hbT) (fun _ _ e=>by cases e)).from w4.heap.size)
     have c2:W2.cell? ⟨w.heap.size,0,none⟩=some (.pointer (some ⟨g,0,none⟩)):=(hb2.below hbT hb2.lt).cell 0
     have c3:W2.cell? ⟨w.heap.size+1,0,none⟩=some (.int .i64 s.base):=(hb3.below hbT hb3.lt).cell 0
     have s0:W2.cell? ⟨g,0,none⟩=some (.int .i64 s.base):=HSW.out.hd.cell 0
     have s2:W2.cell? ⟨g,2,none⟩=some (.slice none 0 0):=HSW.out.hd.cell 2
     have f2:W2.frozen? ⟨g,2,none⟩=false:=HSW.out.hd.free 2
     gi_wp2_with fail
     refine wpIn_still_tail 12 (by kernel_rfl) (by kernel_rfl) (by rfl) ?_
     simp only[List.take_succ_cons,List.take_zero,List.drop_succ_cons,List.drop_zero]
     repeat still_step
     try refine wpStill_nil ?_
     change wpList _ _ _ _ _ W2.drew
     go_wp2_with fail
     refine⟨rfl,?_⟩
     have c6:((W2.setCell ⟨g,2,none⟩ (.slice none 0 0)).drew).cell? ⟨w.heap.size+1+1,0,none⟩=some (.int .i64 0):=(HB4.out.far (p:=⟨g,2,none⟩) (by show w.heap.size+1+1≠g;omega) _).cell 0
     have f6:((W2.setCell ⟨g,2,none⟩ (.slice none 0 0)).drew).frozen? ⟨w.heap.size+1+1,0,none⟩=false:=(HB4.out.far (p:=⟨g,2,none⟩) (by show w.heap.size+1+1≠g;omega) _).free 0
     gi_wp2_with fail
     have hend:=truncE_end HSW.out HB4.out HBB.out hgl hvl (N:=w4.heap.size) (by omega)
     exact⟨keepsF HKF.out hend.1,⟨rfl,hend.2.1.2⟩,hend.2.2.1,hend.2.2.2⟩
    ·have hc0:(0:Int)≤(cap:Int):=by omega
     gi_wp2_with (refine wpListIn_pass (fun _=>trivial) rfl ?_)
     refine⟨trivial,nofun,cT.mono ?_⟩
     rintro e W2 ⟨rfl,hbT⟩
     have HSW:=lh (hsW.below hbT)
     have HB4:=lh (hb4.below hbT hb4.lt)
     have HBB:=lh (hB.trans (hbT.mono hB.size))
     have HKF:=lh ((KeepsOthers.of_grownBy (grownBy_of_below hbT) (fun _ _ e=>by cases e)).from w4.heap.size)
     have c2:W2.cell? ⟨w.heap.size,0,none⟩=some (.pointer (some ⟨g,0,none⟩)):=(hb2.below hbT hb2.lt).cell 0
     have c3:W2.cell? ⟨w.heap.size+1,0,none⟩=some (.int .i64 s.base):=(hb3.below hbT hb3.lt).cell 0
     have s0:W2.cell? ⟨g,0,none⟩=some (.int .i64 s.base):=HSW.out.hd.cell 0
     have s2:W2.cell? ⟨g,2,none⟩=some (.slice (some ⟨bb,0,none⟩) 0 cap):=HSW.out.hd.cell 2
     have f2:W2.frozen? ⟨g,2,none⟩=false:=HSW.out.hd.free 2
     gi_wp2_with fail
     refine wpIn_still_tail 12 (by kernel_rfl) (by kernel_rfl) (by rfl) ?_
     simp only[List.take_succ_cons,List.take_zero,List.drop_succ_cons,List.drop_zero]
     repeat still_step
     try refine wpStill_nil ?_
     change wpList _ _ _ _ _ W2.drew
     go_wp2_with fail
     refine⟨rfl,?_⟩
     have c6:((W2.setCell ⟨g,2,none⟩ (.slice (some ⟨bb,0,none⟩) 0 cap)).drew).cell? ⟨w.heap.size+1+1,0,none⟩=some (.int .i64 0):=(HB4.out.far (p:=⟨g,2,none⟩) (by show w.heap.size+1+1≠g;omega) _).cell 0
     have f6:((W2.setCell ⟨g,2,none⟩ (.slice (some ⟨bb,0,none⟩) 0 cap)).drew).frozen? ⟨w.heap.size+1+1,0,none⟩=false:=(HB4.out.far (p:=⟨g,2,none⟩) (by show w.heap.size+1+1≠g;omega) _).free 0
     gi_wp2_with fail
     have hend:=truncE_end HSW.out HB4.out HBB.out hgl hvl (N:=w4.heap.size) (by omega)
     exact⟨keepsF HKF.out hend.1,⟨rfl,hend.2.1.2⟩,hend.2.2.1,hend.2.2.2⟩
  ·have e1:(a == s.base)=false:=by simp[hab]
   gi_wp2_with (refine wpListIn_pass (fun _=>trivial) rfl ?_)
   exact⟨KeepsFrom.refl _ _,fun hq=>hq,⟨⟨fun x hx he=>by
    rcases List.mem_append.1 hx with hx | hx
    ·exact hpre x hx he
    ·rw[List.mem_singleton.1 hx] at he
     exact absurd he hab,hb4⟩,hb2⟩,⟨hb3,hb5⟩,hB⟩
 case done =>
  rintro D ys W hD rfl ⟨⟨⟨hpre,hb4⟩,hb2⟩,⟨hb3,hb5⟩,hB⟩ hK
  exact absurd rfl (hpre (s.base,false) (by
   have h1:=rst_last s
   have h2:=walk_zero h0
   rw[h2] at h1
   simpa using h1))
 case stop =>
  rintro D c pre W hD hSp ⟨⟨rfl,hb4⟩,hsp,hkp⟩ hK
  have c4:=hb4.cell 0
  simp only[List.getElem?_toArray,List.getElem?_cons_zero] at c4
  gi_wp2
  refine⟨by simp,.inl ⟨_,_,rfl,run_takeDeferred hK,?_⟩⟩
  have hno:∀ {k:Nat} {t:TypeId} {cs:Array Value},Bk W k t cs→some k≠some D:=fun {k t cs} hk e=>by
   injection e with e
   unfold Bk at hk
   rw[e,hK] at hk
   cases hk
  have hg:=grownBy_putObj' W D (.deferred none)
  have c5:(W.putObj D (.deferred none)).cell? ⟨w.heap.size+1+1,0,none⟩=some (.int .i64 0):=(hb4.grown hg (hno hb4)).cell 0
  refine⟨.int .i64 0,by simp[results,Tryz.results61,go_sem,c5],rfl,V,?_,fun k hk=>hk,?_⟩
  ·refine hsp.grown hg (hno hsp.hd) fun k hk=>?_
   obtain⟨cur,hc⟩:=hsp.own_cells hk
   exact hno hc
  ·exact⟨hg.os.trans hkp.os,hg.tape.trans hkp.tape,hg.output.trans hkp.output,Nat.le_trans hkp.size hg.size,fun k hk hn=>(hg.block k (Nat.lt_of_lt_of_le hk hkp.size) fun e=>by injection e with e;omega).trans (hkp.block k hk hn)⟩
theorem TruncE_base (h:SpR w B g s V) (h0:s.ws=[]):Calls Tryz.prog 61 #[.pointer (some ⟨g,0,none⟩),.int .i64 s.base] w (TruP w B g s V):=callsIn_wide.1 (TruncE_in 5 (by omega) h h0)
end
end
end Go.Proofs.YtaijmgkjbbiboaaGreat
