/- Parts of the proof: Vpure, Map, Visit, Exam, CodeR, Wire3. -/
import Derived.Deep.AppendLies
import Derived.Deep.DeepCutAuto
import Derived.Deep.LoopGhost
import Derived.Deep.RegionWith
import Derived.Maps.AppendAt
import Derived.Maps.Own
import Derived.Maps.OwnOps
import Derived.Maps.OwnSet
import Derived.Test.YtmbnlccafcfbeaaDoorPqA
import Derived.WalkSmall
import Derived.Test.YtmbnlccafcfbeaaDoorPq0
import Derived.Test.YtmbnlccafcfbeaaDoorPq4
set_option linter.unusedVariables false
set_option linter.unusedSimpArgs false
set_option linter.unusedSectionVars false
set_option maxRecDepth 100000
namespace Go.Proofs.YtmbnlccafcfbeaaDoor
section
abbrev Ins:=Int × Int × Int
def iV (x:Ins):Bool:=validB x.1 x.2.1 x.2.2
def iP (x:Ins):Int:=popsI x.1 x.2.1 x.2.2
def iU (x:Ins):Int:=pushesI x.1 x.2.1 x.2.2
def iT (x:Ins) (i:Nat):List Int:=targetsI x.1 x.2.1 x.2.2 i
/-- D is a consistent assignment of depths. -/
def Good (c:List Ins) (D:Nat→Option Int):Prop :=
 D 0=some 0∧∀ i d,D i=some d→∃ x,c[i]?=some x∧iV x=true∧iP x≤d∧d - iP x+iU x≤64 ∧
  ∀ t∈iT x i,∃ n:Nat,t=n∧D n=some (d - iP x+iU x)
inductive Reach (c:List Ins):Nat→Prop
 | zero:0 < c.length→Reach c 0
 | step {i n:Nat} {x:Ins}:Reach c i→c[i]?=some x→(n:Int)∈iT x i→n < c.length→Reach c n
structure VS where
 f:Nat→Option Int
 work:List Nat
 sound:Bool
 most:Int
def upd (f:Nat→Option Int) (n:Nat) (d:Int):Nat→Option Int:=fun k=>if k=n then some d else f k
/-- one call of visit -/
def visitS (len:Nat) (t d:Int) (s:VS):VS :=
 if t < 0 ∨ (len:Int)≤t then { s with sound:=false }
 else match s.f t.toNat with
  | some was=>{ s with sound:=s.sound && was == d }
  | none=>{ s with f:=upd s.f t.toNat d,work:=s.work++[t.toNat] }
/-- what a round does to an instruction at a depth, ahead of the visits -/
def markS (x:Ins) (d:Int) (s:VS):VS :=
 let b:=d - iP x+iU x
 let m:=max s.most (max d b)
 { s with most:=m,sound:=if iP x > d ∨ m > 64 then false else s.sound }
def roundS (c:List Ins) (at':Nat) (x:Ins) (d:Int) (s:VS):VS :=
 if iV x then (iT x at').foldl (fun s t=>visitS c.length t (d - iP x+iU x) s) (markS x d s) else { s with sound:=false }
/-- an instruction is done: it is sound by itself and so are its targets -/
def Done (c:List Ins) (f:Nat→Option Int) (most:Int) (i:Nat) (d:Int):Prop :=
 ∃ x,c[i]?=some x∧iV x=true∧iP x≤d∧d - iP x+iU x≤64∧d≤most∧d - iP x+iU x≤most∧∀ t∈iT x i,∃ n:Nat,t=n∧f n=some (d - iP x+iU x)
structure Inv (c:List Ins) (s:VS):Prop where
 zero:s.f 0=some 0
 dom:∀ i d,s.f i=some d→i < c.length∧Reach c i
 work:∀ i∈s.work,∃ d,s.f i=some d
 nodup:s.work.Nodup
 closed:∀ i d x,s.f i=some d→i ∉ s.work→c[i]?=some x→∀ n:Nat,(n:Int)∈iT x i→n < c.length→(s.f n).isSome=true
 done:s.sound=true→∀ i d,s.f i=some d→i ∉ s.work→Done c s.f s.most i d
 forced:s.sound=true→∀ D,Good c D→∀ i d,s.f i=some d→D i=some d
 le64:s.sound=true→∀ i d,s.f i=some d→d≤64
 bad:s.sound=false→∀ D,¬ Good c D
 most0:0≤s.most
 most64:s.sound=true→s.most≤64
 mostIs:s.sound=true→s.most=0 ∨ ∃ i d x,s.f i=some d∧c[i]?=some x∧(s.most=d ∨ s.most=d - iP x+iU x)
/-- what a row of visits leaves -/
structure Visited (len:Nat) (b:Int) (s s':VS) (ts:List Int):Prop where
 mono:∀ i d,s.f i=some d→s'.f i=some d
 new:∀ i d,s'.f i=some d→s.f i=some d ∨ (s.f i=none∧(i:Int)∈ts∧i < len∧d=b)
 work:∃ l,s'.work=s.work++l∧l.Nodup∧(∀ i∈l,s.f i=none∧s'.f i=some b)∧∀ i d,s'.f i=some d→s.f i=none→i∈l
 some_:∀ n:Nat,(n:Int)∈ts→n < len→(s'.f n).isSome=true
 good:s'.sound=true→s.sound=true∧∀ t∈ts,∃ n:Nat,t=n∧n < len∧s'.f n=some b
 bad:s'.sound=false→s.sound=false ∨ ∃ t∈ts,(t < 0 ∨ (len:Int)≤t) ∨ ∃ n:Nat,t=n∧∃ d,s'.f n=some d∧d≠b
 most:s'.most=s.most
theorem Visited.nil (len:Nat) (b:Int) (s:VS):Visited len b s s [] where
 mono:=fun _ _ h=>h
 new:=fun _ _ h=>.inl h
 work:=⟨[],by simp,List.nodup_nil,by simp,fun i d h h'=>by rw[h] at h';cases h'⟩
 some_:=fun n h=>by cases h
 good:=fun h=>⟨h,by simp⟩
 bad:=fun h=>.inl h
 most:=rfl
theorem Visited.one (len:Nat) (t b:Int) (s:VS):Visited len b s (visitS len t b s) [t]:=by
 unfold visitS
 by_cases ho:t < 0 ∨ (len:Int)≤t
 ·rw[if_pos ho]
  exact { mono:=fun _ _ h=>h,new:=fun _ _ h=>.inl h,work:=⟨[],by simp,List.nodup_nil,by simp,fun i d h h'=>by simp_all⟩,some_:=fun n h hn=>by simp at h;omega,good:=fun h=>by simp at h,bad:=fun _=>.inr ⟨t,by simp,.inl ho⟩,most:=rfl }
 ·rw[if_neg ho]
  obtain⟨n,rfl⟩:=Int.eq_ofNat_of_zero_le (show 0≤t by omega)
  have hn:n < len:=by omega
  simp only[Int.toNat_natCast]
  cases hf:s.f n with
  | some was =>
   simp only
   refine { mono:=fun _ _ h=>h,new:=fun _ _ h=>.inl h,work:=⟨[],by simp,List.nodup_nil,by simp,fun i d h h'=>by simp_all⟩,some_:=fun m h _=>by(have hmn:m=n:=by simp at h;omega);subst hmn;simp[hf],good:=fun h=>?_,bad:=fun h=>?_,most:=rfl }
   ·simp at h
    exact⟨h.1,fun t ht=>⟨n,by simpa using ht,hn,by rw[hf,h.2]⟩⟩
   ·simp at h
    cases hs:s.sound with
    | false=>exact .inl rfl
    | true=>exact .inr ⟨n,by simp,.inr ⟨n,rfl,was,hf,h hs⟩⟩
  | none =>
   simp only
   refine { mono:=fun i d h=>?_,new:=fun i d h=>?_,work:=⟨[n],rfl,by simp,fun i hi=>?_,fun i d h h'=>?_⟩,some_:=fun m h _=>?_,good:=fun h=>⟨h,fun t ht=>⟨n,by simpa using ht,hn,by simp[upd]⟩⟩,bad:=fun h=>.inl h,most:=rfl }
   ·have:i≠n:=by rintro rfl;rw[hf] at h;cases h
    simp[upd,this,h]
   ·by_cases hi:i=n
    ·subst hi;simp[upd] at h;exact .inr ⟨hf,by simp,hn,h.symm⟩
    ·simp[upd,hi] at h;exact .inl h
   ·simp at hi;subst hi;exact⟨hf,by simp[upd]⟩
   ·by_cases hi:i=n
    ·simp[hi]
    ·simp[upd,hi] at h;rw[h] at h';cases h'
   ·have hmn:m=n:=by simp at h;omega
    subst hmn;simp[upd]
theorem Visited.trans {len:Nat} {b:Int} {s s1 s2:VS} {l m:List Int} (h:Visited len b s s1 l) (k:Visited len b s1 s2 m):Visited len b s s2 (l++m) where
 mono:=fun i d e=>k.mono i d (h.mono i d e)
 new:=fun i d e=>by
  rcases k.new i d e with e1 | ⟨e1,e2,e3,e4⟩
  ·rcases h.new i d e1 with f1 | ⟨f1,f2,f3,f4⟩
   ·exact .inl f1
   ·exact .inr ⟨f1,by simp[f2],f3,f4⟩
  ·refine .inr ⟨?_,by simp[e2],e3,e4⟩
   cases hs:s.f i with
   | none=>rfl
   | some d'=>have:=h.mono i d' hs;rw[e1] at this;cases this
 work:=by
  obtain⟨l1,a1,a2,a3,a4⟩:=h.work
  obtain⟨l2,b1,b2,b3,b4⟩:=k.work
  refine⟨l1++l2,by rw[b1,a1,List.append_assoc],?_,fun i hi=>?_,fun i d e e'=>?_⟩
  ·refine List.nodup_append.2 ⟨a2,b2,fun x hx y hy=>?_⟩
   rintro rfl
   have:=(a3 x hx).2
   rw[(b3 x hy).1] at this
   cases this
  ·rcases List.mem_append.1 hi with hi | hi
   ·exact⟨(a3 i hi).1,k.mono _ _ (a3 i hi).2⟩
   ·refine⟨?_,(b3 i hi).2⟩
    cases hs:s.f i with
    | none=>rfl
    | some d'=>have:=h.mono i d' hs;rw[(b3 i hi).1] at this;cases this
  ·cases h1:s1.f i with
   | none=>exact List.mem_append.2 (.inr (b4 i d e h1))
   | some d'=>exact List.mem_append.2 (.inl (a4 i d' h1 e'))
 some_:=fun n hn hl=>by
  rcases List.mem_append.1 hn with hn | hn
  ·have:=h.some_ n hn hl
   obtain⟨d,hd⟩:=Option.isSome_iff_exists.1 this
   simp[k.mono n d hd]
  ·exact k.some_ n hn hl
 good:=fun hs=>by
  obtain⟨h1,h2⟩:=k.good hs
  obtain⟨h3,h4⟩:=h.good h1
  refine⟨h3,fun t ht=>?_⟩
  rcases List.mem_append.1 ht with ht | ht
  ·obtain⟨n,e1,e2,e3⟩:=h4 t ht
   exact⟨n,e1,e2,k.mono _ _ e3⟩
  ·exact h2 t ht
 bad:=fun hs=>by
  rcases k.bad hs with h1 | ⟨t,ht,h1⟩
  ·rcases h.bad h1 with h2 | ⟨t,ht,h2⟩
   ·exact .inl h2
   ·refine .inr ⟨t,List.mem_append.2 (.inl ht),h2.imp id ?_⟩
    rintro⟨n,e1,d,e2,e3⟩
    exact⟨n,e1,d,k.mono _ _ e2,e3⟩
  ·exact .inr ⟨t,List.mem_append.2 (.inr ht),h1⟩
 most:=k.most.trans h.most
theorem Visited.fold (len:Nat) (b:Int):∀ (ts:List Int) (s:VS),Visited len b s (ts.foldl (fun s t=>visitS len t b s) s) ts
 | [],s=>Visited.nil len b s
 | t::ts,s=>(Visited.one len t b s).trans (Visited.fold len b ts (visitS len t b s))
theorem Good.lt {c:List Ins} {D:Nat→Option Int} (h:Good c D) {n:Nat} {d:Int} (e:D n=some d):n < c.length:=by
 obtain⟨x,hx,_⟩:=h.2 n d e
 exact(List.getElem?_eq_some_iff.1 hx).1
theorem Inv.round {c:List Ins} {s:VS} {l:List Nat} {a:Nat} {x:Ins} {d:Int} (h:Inv c s) (hw:s.work=l++[a]) (hx:c[a]?=some x) (hd:s.f a=some d) :
  Inv c (roundS c a x d { s with work:=l }):=by
 have hal:a ∉ l:=by
  have:=h.nodup
  rw[hw] at this
  intro hm
  exact(List.nodup_append.1 this).2.2 a hm a (by simp) rfl
 have hnd:l.Nodup:=by
  have:=h.nodup
  rw[hw] at this
  exact(List.nodup_append.1 this).1
 have hlw:∀ i,i ∉ l→i≠a→i ∉ s.work:=fun i h1 h2=>by rw[hw];simp[h1,h2]
 have hra:=(h.dom a d hd).2
 unfold roundS
 by_cases hv:iV x=true
 ·rw[if_pos hv]
  have V:=Visited.fold c.length (d - iP x+iU x) (iT x a) (markS x d { s with work:=l })
  generalize hs':(iT x a).foldl (fun s t=>visitS c.length t (d - iP x+iU x) s) (markS x d { s with work:=l })=s' at V ⊢
  have m1:(markS x d { s with work:=l }).f=s.f:=rfl
  have m2:(markS x d { s with work:=l }).work=l:=rfl
  have m3:(markS x d { s with work:=l }).most=max s.most (max d (d - iP x+iU x)):=rfl
  have m4:(markS x d { s with work:=l }).sound=if iP x > d ∨ max s.most (max d (d - iP x+iU x)) > 64 then false else s.sound:=rfl
  have hmost:s'.most=max s.most (max d (d - iP x+iU x)):=V.most.trans m3
  have hsnd:s'.sound=true→s.sound=true∧iP x≤d∧max s.most (max d (d - iP x+iU x))≤64:=fun hh=>by
   have:=(V.good hh).1
   rw[m4] at this
   split at this
   ·cases this
   ·exact⟨this,by omega,by omega⟩
  obtain⟨l2,w1,w2,w3,w4⟩:=V.work
  rw[m2] at w1
  have hnew:∀ i e,s'.f i=some e→s.f i=some e ∨ (s.f i=none∧(i:Int)∈iT x a∧i < c.length∧e=d - iP x+iU x):=V.new
  have hforced:s.sound=true→∀ D,Good c D→∀ i e,s'.f i=some e→D i=some e:=fun hh D hD i e he=>by
   rcases hnew i e he with h1 | ⟨_,h2,_,h4⟩
   ·exact h.forced hh D hD i e h1
   ·obtain⟨x',hx',_,_,_,ht⟩:=hD.2 a d (h.forced hh D hD a d hd)
    rw[hx] at hx'
    cases hx'
    obtain⟨n,e1,e2⟩:=ht _ h2
    have:i=n:=by omega
    rw[this,e2,h4]
  refine { zero:=V.mono _ _ h.zero,dom:=fun i e he=>?_,work:=fun i hi=>?_,nodup:=?_,closed:=fun i e y he hn hy n ht hl=>?_,done:=fun hh i e he hn=>?_,forced:=fun hh=>hforced (hsnd hh).1,le64:=fun hh i e he=>?_,bad:=fun hh D hD=>?_,most0:=?_,most64:=fun hh=>?_,mostIs:=fun hh=>?_ }
  ·rcases hnew i e he with h1 | ⟨_,h2,h3,_⟩
   ·exact h.dom i e h1
   ·exact⟨h3,.step hra hx h2 h3⟩
  ·rw[w1] at hi
   rcases List.mem_append.1 hi with hi | hi
   ·obtain⟨e,he⟩:=h.work i (by rw[hw];simp[hi])
    exact⟨e,V.mono _ _ he⟩
   ·exact⟨_,(w3 i hi).2⟩
  ·rw[w1]
   refine List.nodup_append.2 ⟨hnd,w2,fun i hi j hj=>?_⟩
   rintro rfl
   obtain⟨e,he⟩:=h.work i (by rw[hw];simp[hi])
   have:=(w3 i hj).1
   rw[m1,he] at this
   cases this
  ·have hsi:s.f i=some e:=by
    rcases hnew i e he with h1 | ⟨h1,_⟩
    ·exact h1
    ·exact absurd (w4 i e he h1) (fun hm=>hn (by rw[w1];simp[hm]))
   by_cases hia:i=a
   ·subst hia
    rw[hx] at hy
    cases hy
    exact V.some_ n ht hl
   ·obtain⟨e',he'⟩:=Option.isSome_iff_exists.1 (h.closed i e y hsi (hlw i (fun hm=>hn (by rw[w1];simp[hm])) hia) hy n ht hl)
    simp[V.mono _ _ he']
  ·obtain⟨q1,q2,q3⟩:=hsnd hh
   have hsi:s.f i=some e:=by
    rcases hnew i e he with h1 | ⟨h1,_⟩
    ·exact h1
    ·exact absurd (w4 i e he h1) (fun hm=>hn (by rw[w1];simp[hm]))
   by_cases hia:i=a
   ·subst hia
    rw[hd] at hsi
    cases hsi
    refine⟨x,hx,hv,q2,by omega,by omega,by omega,fun t ht=>?_⟩
    obtain⟨n,e1,_,e3⟩:=(V.good hh).2 t ht
    exact⟨n,e1,e3⟩
   ·obtain⟨y,y1,y2,y3,y4,y5,y6,y7⟩:=h.done q1 i e hsi (hlw i (fun hm=>hn (by rw[w1];simp[hm])) hia)
    refine⟨y,y1,y2,y3,y4,by omega,by omega,fun t ht=>?_⟩
    obtain⟨n,e1,e2⟩:=y7 t ht
    exact⟨n,e1,V.mono _ _ e2⟩
  ·obtain⟨q1,q2,q3⟩:=hsnd hh
   rcases hnew i e he with h1 | ⟨_,_,_,h4⟩
   ·exact h.le64 q1 i e h1
   ·omega
  ·cases hs0:s.sound with
   | false=>exact h.bad hs0 D hD
   | true =>
    obtain⟨x',hx',g1,g2,g3,g4⟩:=hD.2 a d (h.forced hs0 D hD a d hd)
    rw[hx] at hx'
    cases hx'
    have hd64:=h.le64 hs0 a d hd
    have hm64:=h.most64 hs0
    rcases V.bad hh with hb | ⟨t,ht,hb⟩
    ·rw[m4,if_neg (by omega),hs0] at hb
     cases hb
    ·obtain⟨n,e1,e2⟩:=g4 t ht
     have hn:=hD.lt e2
     rcases hb with hb | ⟨n',f1,d',f2,f3⟩
     ·omega
     ·have:n=n':=by omega
      subst this
      have:=hforced hs0 D hD n d' f2
      rw[e2] at this
      exact f3 (Option.some.inj this).symm
  ·have:=h.most0;omega
  ·obtain⟨q1,q2,q3⟩:=hsnd hh;omega
  ·obtain⟨q1,q2,q3⟩:=hsnd hh
   rcases h.mostIs q1 with h0 | ⟨i,e,y,y1,y2,y3⟩
   ·by_cases hc:s'.most=0
    ·exact .inl hc
    ·refine .inr ⟨a,d,x,V.mono _ _ hd,hx,by omega⟩
   ·by_cases hc:s'.most=s.most
    ·exact .inr ⟨i,e,y,V.mono _ _ y1,y2,by omega⟩
    ·exact .inr ⟨a,d,x,V.mono _ _ hd,hx,by omega⟩
 ·rw[if_neg hv]
  refine { zero:=h.zero,dom:=h.dom,work:=fun i hi=>h.work i (by rw[hw];simp[show i∈l from hi]),nodup:=hnd,closed:=fun i e y he hn hy n ht hl=>?_,done:=fun hh=>by simp at hh,forced:=fun hh=>by simp at hh,le64:=fun hh=>by simp at hh,bad:=fun _ D hD=>?_,most0:=h.most0,most64:=fun hh=>by simp at hh,mostIs:=fun hh=>by simp at hh }
  ·by_cases hia:i=a
   ·subst hia
    rw[hx] at hy
    cases hy
    simp only[Bool.not_eq_true] at hv
    have:iT x i=[]:=by unfold iT targetsI;unfold iV at hv;simp[hv]
    rw[this] at ht
    cases ht
   ·exact h.closed i e y he (hlw i hn hia) hy n ht hl
  ·cases hs0:s.sound with
   | false=>exact h.bad hs0 D hD
   | true =>
    obtain⟨x',hx',g1,_⟩:=hD.2 a d (h.forced hs0 D hD a d hd)
    rw[hx] at hx'
    cases hx'
    exact hv g1
/-- what the visits come to at the end -/
structure Fin (c:List Ins) (f:Nat→Option Int) (sound:Bool) (most:Int):Prop where
 reach:∀ i,(f i).isSome=true↔Reach c i
 good:sound=true→Good c f
 forced:sound=true→∀ D,Good c D→∀ i d,f i=some d→D i=some d
 bad:sound=false→∀ D,¬ Good c D
 lt:∀ i d,f i=some d→i < c.length
 most0:0≤most
 most64:sound=true→most≤64
 mostLe:sound=true→∀ i d x,f i=some d→c[i]?=some x→d≤most∧d - iP x+iU x≤most
 mostIs:sound=true→most=0 ∨ ∃ i d x,f i=some d∧c[i]?=some x∧(most=d ∨ most=d - iP x+iU x)
end
section
open Go.RowKit Go.Maps
section
variable {P:Program} {k e t:TypeId} {w w':World} {b n:Nat} {f:Int→Option Int}
/-- Block b is a map of at most n entries that maps as f says. -/
def MapI (P:Program) (k e:TypeId) (w:World) (b n:Nat) (f:Int→Option Int):Prop :=
 ∃ D:DataW Unit,w.ownsMap P k (plainElem P e) b n D∧∀ x,(Lit.int .i64 x).wf=true→Maps.has D (.int .i64 x)=(f x).isSome∧D.atKey (.int .i64 x) (.lit (.int .i64 0))=.lit (.int .i64 ((f x).getD 0))
theorem MapI.drewN (h:MapI P k e w b n f) (i:Nat):MapI P k e (w.drewN i) b n f:=h
theorem MapI.block (h:MapI P k e w b n f) (hb:w'.heap[b]?=w.heap[b]?):MapI P k e w' b n f:=by
 obtain⟨D,⟨es,clock,h1,h2⟩,h3⟩:=h
 exact⟨D,⟨es,clock,hb.trans h1,h2⟩,h3⟩
variable (hk:P.underlying k=some (.int .i64)) (he:P.underlying e=some (.int .i64)) (ht:P.underlying t=some (.map k e)) (hz:∀ w,(zeroValue e).run P w=.ok (.int .i64 0) w)
include hk he ht
include hz
end
end
section
open Go.RowKit Go.Maps
section
variable {w:World} {N:Nat} {v0 v1 v2 v4:Value} {A:Option Addr} {len cap:Nat} {s:VS}
theorem own_ne {base e size n:Nat} {w:World} {v:Value} {xs:List Value} (h:w.ownsRow base e size v n xs) {g:Nat} (hg:g < base):some g≠v.ownBlock:=by
 intro hh
 have:=(h.lt g hh.symm).1
 omega
end
end
section
open Go.RowKit Go.Maps
def insCells (x:Ins):List Value:=[.int .i64 x.1,.int .i64 x.2.1,.int .i64 x.2.2]
def codeCells (c:List Ins):List Value:=c.flatMap insCells
theorem codeCells_length (c:List Ins):(codeCells c).length=c.length*3:=by
 induction c with
 | nil=>rfl
 | cons x c ih=>simp[codeCells,insCells] at ih ⊢;omega
theorem codeCells_get (c:List Ins) (i:Nat) (x:Ins) (h:c[i]?=some x):(codeCells c)[i*3]?=some (.int .i64 x.1)∧(codeCells c)[i*3+1]?=some (.int .i64 x.2.1)∧(codeCells c)[i*3+2]?=some (.int .i64 x.2.2):=by
 induction c generalizing i with
 | nil=>simp at h
 | cons y c ih =>
  cases i with
  | zero=>simp at h;subst h;exact⟨rfl,rfl,rfl⟩
  | succ i =>
   have:=ih i (by simpa using h)
   have e:codeCells (y::c)=insCells y++codeCells c:=by simp[codeCells]
   rw[e]
   have el:(insCells y).length=3:=rfl
   refine⟨?_,?_,?_⟩ <;> rw[List.getElem?_append_right (by omega),el]
   ·rw[show(i+1)*3 - 3=i*3 by omega];exact this.1
   ·rw[show(i+1)*3+1 - 3=i*3+1 by omega];exact this.2.1
   ·rw[show(i+1)*3+2 - 3=i*3+2 by omega];exact this.2.2
theorem Fin.nil:Fin [] (fun _=>none) false 0 where
 reach:=fun i=>⟨fun h=>(by cases h),fun h=>(by cases h with | zero h=>cases h | step _ h _ _=>cases h)⟩
 good:=fun h=>by cases h
 forced:=fun h=>by cases h
 bad:=fun _ D h=>by
  obtain⟨x,hx,_⟩:=h.2 0 0 h.1
  cases hx
 lt:=fun i d h=>by cases h
 most0:=Int.le_refl _
 most64:=fun h=>by cases h
 mostLe:=fun h=>by cases h
 mostIs:=fun h=>by cases h
section
variable {w:World} {v0 v1 v2 v4:Value} {A:Option Addr} {len cap:Nat}
end
end
section
open Go.RowKit
structure Mth where
 nm:ByteArray
 p:Int
 l:Int
 code:List Ins
 names:List ByteArray
structure Cls where
 nm:ByteArray
 actor:Bool
 fields:List ByteArray
 ms:List Mth
def txtCells (l:List ByteArray):List Value:=l.map Value.string
/-- the slice at A with n elements of s cells reads as xs, each in the way of R -/
def SlR {α:Type} (R:World→α→List Value→Prop) (w:World) (s:Nat) (A:Option Addr) (n:Nat) (xs:List α):Prop :=
 xs.length=n∧(n=0 ∨ ∃ b o,A=some ⟨b,o,none⟩∧b < w.heap.size∧∀ i x,xs[i]?=some x→∃ r:List Value,r.length=s∧R w x r∧∀ j v,r[j]?=some v→w.cell? ⟨b,o+i*s+j,none⟩=some v)
theorem SlR.nil {α:Type} (R:World→α→List Value→Prop) (w:World) (s:Nat) (A:Option Addr):SlR R w s A 0 []:=⟨rfl,.inl rfl⟩
theorem SlR.get {α:Type} {R:World→α→List Value→Prop} {w:World} {s n:Nat} {A:Option Addr} {xs:List α} (h:SlR R w s A n xs) {k:Nat} (hk:k < n) :
  ∃ b o x r,A=some ⟨b,o,none⟩∧b < w.heap.size∧xs[k]?=some x∧r.length=s∧R w x r∧∀ j v,r[j]?=some v→w.cell? ⟨b,o+k*s+j,none⟩=some v:=by
 rcases h.2 with h0 | ⟨b,o,hA,hb,hc⟩
 ·omega
 ·obtain⟨x,hx⟩:∃ x,xs[k]?=some x:=⟨_,List.getElem?_eq_getElem (by rw[h.1];exact hk)⟩
  obtain⟨r,h1,h2,h3⟩:=hc k x hx
  exact⟨b,o,x,r,hA,hb,hx,h1,h2,h3⟩
theorem SlR.keep {α:Type} {R:World→α→List Value→Prop} {w w':World} {s n:Nat} {A:Option Addr} {xs:List α} (h:SlR R w s A n xs) (hs:w.heap.size≤w'.heap.size)
  (hk:∀ b o v,w.cell? ⟨b,o,none⟩=some v→w'.cell? ⟨b,o,none⟩=some v) (hR:∀ x r,R w x r→R w' x r):SlR R w' s A n xs:=by
 refine⟨h.1,?_⟩
 rcases h.2 with h0 | ⟨b,o,hA,hb,hc⟩
 ·exact .inl h0
 ·refine .inr ⟨b,o,hA,by omega,fun i x hx=>?_⟩
  obtain⟨r,h1,h2,h3⟩:=hc i x hx
  exact⟨r,h1,hR x r h2,fun j v hv=>hk _ _ _ (h3 j v hv)⟩
def insWf (c:List Ins):Prop:=∀ x∈c,(Lit.int .i64 x.1).wf=true∧(Lit.int .i64 x.2.1).wf=true∧(Lit.int .i64 x.2.2).wf=true
/-- what a method that came in can be -/
structure Mth.ok (m:Mth):Prop where
 p:(Lit.int .i64 m.p).wf=true
 l:(Lit.int .i64 m.l).wf=true
 code:insWf m.code
 nm:m.nm.size≤140737488351232
 names:∀ s∈m.names,s.size≤140737488351232
 lc:m.code.length≤140737488351232
 ln:m.names.length≤140737488351232
structure Cls.ok (k:Cls):Prop where
 nm:k.nm.size≤140737488351232
 fields:∀ s∈k.fields,s.size≤140737488351232
 lf:k.fields.length≤140737488351232
 lm:k.ms.length≤140737488351232
def MthR (w:World) (m:Mth) (r:List Value):Prop :=
 m.ok∧∃ A c B d,r=[.string m.nm,.int .i64 m.p,.int .i64 m.l,.slice A m.code.length c,.slice B m.names.length d]∧m.code.length≤c∧Sl w 3 A m.code.length (codeCells m.code)∧m.names.length≤d∧Sl w 1 B m.names.length (txtCells m.names)
def ClsR (w:World) (k:Cls) (r:List Value):Prop :=
 k.ok∧∃ F c M d,r=[.string k.nm,.bool k.actor,.slice F k.fields.length c,.slice M k.ms.length d]∧k.fields.length≤c∧Sl w 1 F k.fields.length (txtCells k.fields)∧k.ms.length≤d∧SlR MthR w 5 M k.ms.length k.ms
def CodeR (w:World) (cs:List Cls) (A:Option Addr) (n c:Nat):Prop:=cs.length=n∧n≤c∧n≤140737488351232∧SlR ClsR w 4 A n cs
theorem MthR.keep {w w':World} (hs:w.heap.size≤w'.heap.size) (hk:∀ b o v,w.cell? ⟨b,o,none⟩=some v→w'.cell? ⟨b,o,none⟩=some v) (m:Mth) (r:List Value) (h:MthR w m r):MthR w' m r :=
 let ⟨h0,A,c,B,d,h1,h2,h3,h4,h5⟩:=h;⟨h0,A,c,B,d,h1,h2,h3.keep hs hk,h4,h5.keep hs hk⟩
theorem ClsR.keep {w w':World} (hs:w.heap.size≤w'.heap.size) (hk:∀ b o v,w.cell? ⟨b,o,none⟩=some v→w'.cell? ⟨b,o,none⟩=some v) (k:Cls) (r:List Value) (h:ClsR w k r):ClsR w' k r :=
 let ⟨h0,F,c,M,d,h1,h2,h3,h4,h5⟩:=h;⟨h0,F,c,M,d,h1,h2,h3.keep hs hk,h4,h5.keep hs hk (MthR.keep hs hk)⟩
theorem keep_below {w w':World} (hb:Below w.heap.size w w'):∀ b o v,w.cell? ⟨b,o,none⟩=some v→w'.cell? ⟨b,o,none⟩=some v:=fun b o v hv=>(hb.cell (p:=⟨b,o,none⟩) (cell_lt hv)).trans hv
theorem CodeR.below {w w':World} {cs:List Cls} {A:Option Addr} {n c:Nat} (h:CodeR w cs A n c) (hb:Below w.heap.size w w'):CodeR w' cs A n c :=
 ⟨h.1,h.2.1,h.2.2.1,h.2.2.2.keep hb.size (keep_below hb) (ClsR.keep hb.size (keep_below hb))⟩
theorem MthR.below {w w':World} {m:Mth} {r:List Value} (h:MthR w m r) (hb:Below w.heap.size w w'):MthR w' m r:=MthR.keep hb.size (keep_below hb) m r h
theorem ClsR.below {w w':World} {m:Cls} {r:List Value} (h:ClsR w m r) (hb:Below w.heap.size w w'):ClsR w' m r:=ClsR.keep hb.size (keep_below hb) m r h
theorem SlR.mths {w w':World} {A:Option Addr} {n:Nat} {ms:List Mth} (h:SlR MthR w 5 A n ms) (hb:Below w.heap.size w w'):SlR MthR w' 5 A n ms:=h.keep hb.size (keep_below hb) (MthR.keep hb.size (keep_below hb))
theorem SlR.clss {w w':World} {A:Option Addr} {n:Nat} {ms:List Cls} (h:SlR ClsR w 4 A n ms) (hb:Below w.heap.size w w'):SlR ClsR w' 4 A n ms:=h.keep hb.size (keep_below hb) (ClsR.keep hb.size (keep_below hb))
/-- the bounds that a small program meets -/
structure Mth.few (m:Mth) (most:Nat):Prop where
 code:m.code.length≤most
 names:m.names.length≤most
 nm:m.nm.size < 200
 each:∀ s∈m.names,s.size < 200
structure Cls.few (k:Cls) (most:Nat):Prop where
 nm:k.nm.size < 200
 fields:k.fields.length≤most
 ms:k.ms.length≤most
 each:∀ s∈k.fields,s.size < 200
 mths:∀ m∈k.ms,m.few most
def fewP (cs:List Cls) (most:Nat):Prop:=cs.length≤most∧∀ k∈cs,k.few most
end
section
open Go.RowKit
attribute [local go_sem] Oper.semAt_some
def encIns (x:Ins):List Int:=encI x.1++encI x.2.1++encI x.2.2
def encMth (m:Mth):List Int:=encS m.nm++encI m.p++encI m.l++encL encIns m.code++encL encS m.names
def encCls (k:Cls):List Int:=encS k.nm++encB k.actor++encL encS k.fields++encL encMth k.ms
def encCode (cs:List Cls):List Int:=encL encCls cs
theorem encL_take {α:Type} (enc:α→List Int) {l:List α} {k:Nat} {x:α} (h:l[k]?=some x):(l.take (k+1)).flatMap enc=(l.take k).flatMap enc++enc x:=by
 rw[List.take_add_one,h,List.flatMap_append];simp
theorem encL_le {α:Type} (enc:α→List Int) {l:List α} {k:Nat} {x:α} (h:l[k]?=some x):(encU l.length).length+((l.take k).flatMap enc).length+(enc x).length≤(encL enc l).length:=by
 have e:l.flatMap enc=(l.take k).flatMap enc++(enc x++(l.drop (k+1)).flatMap enc):=by
  conv=>lhs;rw[← List.take_append_drop (k+1) l]
  rw[List.flatMap_append,encL_take enc h,List.append_assoc]
 unfold encL
 rw[e]
 simp only[List.length_append]
 omega
theorem encS_len (s:ByteArray):s.size+1≤(encS s).length:=by
 unfold encS encU
 rw[List.length_append,List.length_cons,bts_len]
 omega
section
variable {w:World} {B c:Nat} {A F:Option Addr} {l:List Int} {fs:List ByteArray}
set_option maxHeartbeats 4000000 in
theorem appendStrings_any {cf:Nat} (ho:w.ownsRow B 5 1 (.slice A l.length c) l.length (byts l)) (hB:B≤w.heap.size) (hF:Sl w 1 F fs.length (txtCells fs)) (hFb:∀ b o,F=some ⟨b,o,none⟩→fs.length≠0→b < B) (hfc:fs.length≤cf) (hl:l.length+(encL encS fs).length≤4294967296):Calls Tryd.prog 27 #[.slice A l.length c,.slice F fs.length cf] w (ApP B w (.slice A l.length c) (l++encL encS fs)):=by
 have hfl:fs.length≤4294967296:=by
  have h1:∀ (k:List ByteArray),k.length≤(k.flatMap encS).length:=fun k=>by
   induction k with
   | nil=>exact Nat.le_refl _
   | cons x k ih=>have:=encS_len x;rw[List.flatMap_cons,List.length_append,List.length_cons];omega
  have:=h1 fs
  unfold encL at hl
  rw[List.length_append] at hl
  omega
 have cU:=AppendUint_any ho hB (n:=(fs.length:Int)) ⟨by omega,by omega⟩ (by omega)
 have hw0:IntKind.u64.wrap (fs.length:Int)=(fs.length:Int):=by rw[IntKind.wrap_u64];omega
 have HF:=lh hF
 have HFB:=lh hFb
 have HL:=lh hl
 have HOV:Hid (∀ q,(Value.slice A l.length c).ownBlock=some q→B≤q):=lh fun q hq=>(ho.lt q hq).1
 clear ho hF hFb hl
 go_enter Tryd.func27,Tryd.ntmps27
 go_wp2_with fail
 refine cU.mono ?_
 rintro e w1 ⟨v1,rfl,ho1,hk1,hv1⟩
 have HO1:=lh ho1
 have HK1:=lh hk1
 have HV1:=lh hv1
 clear cU ho1 hk1 hv1
 go_wp2_with fail
 go_loopw [0,14] (fun v ix wr=>∃ (j:Nat) (l1:List Int),ix=.int .i64 (j:Int)∧j≤fs.length∧l1=l++(encU fs.length++(fs.take j).flatMap encS)∧wr.ownsRow B 5 1 v l1.length (byts l1)∧Kp (fun k=>(Value.slice A l.length c).ownBlock=some k) w wr∧∀ q,v.ownBlock=some q→(Value.slice A l.length c).ownBlock=some q ∨ w.heap.size≤q) (fun _ ix _=>fs.length - (intOf ix).toNat)
 case atStart=>exact⟨0,_,rfl,Nat.zero_le _,rfl,by rw[List.take_zero,List.flatMap_nil,List.append_nil];exact HO1.out,HK1.out,HV1.out⟩
 case round =>
  clear HO1 HK1 HV1
  obtain⟨j,l1,rfl,hj,hl1,hown,hkp,hvo⟩:=hrel
  have HOW:=lh hown
  have HK:=lh hkp
  have HV:=lh hvo
  have HL1:=lh hl1
  obtain⟨A1,c1,rfl,hc1⟩:=own_shape hown
  clear hown hkp hvo hl1
  by_cases hlt:j < fs.length
  ·have hx:fs[j]?=some fs[j]:=List.getElem?_eq_getElem hlt
   have hle:=encL_le encS hx
   have hs:=encS_len fs[j]
   have htk:=encL_take encS hx
   obtain⟨bb,oo,hA,hbl,hcc⟩:=HF.out.2.resolve_left (by omega)
   have hbB:=HFB.out bb oo hA (by omega)
   have e0:w.cell? ⟨bb,oo+j,none⟩=some (.string fs[j]):=hcc j _ (by unfold txtCells;rw[List.getElem?_map,hx];rfl)
   have e1:wr.cell? ⟨bb,oo+j,none⟩=some (.string fs[j]):=HK.out.cell e0 fun e=>by have:=HOV.out bb e;omega
   subst hA
   have hjc:j < cf:=by omega
   generalize fs[j]=s at *
   have hl1:l1.length=l.length+((encU fs.length).length+((fs.take j).flatMap encS).length):=by rw[HL1.out,List.length_append,List.length_append]
   have cS:=AppendString_any (s:=s) HOW.out (Nat.le_trans hB HK.out.size) (by have:=HL.out;omega) (by have:=HL.out;omega)
   obtain⟨l2,hl2⟩:∃ l2,l2=l1++encS s:=⟨_,rfl⟩
   rw[← hl2] at cS
   have HL2:=lh hl2
   have HTK:=lh htk
   clear hl2 hx hle hs htk hcc hbl e0 hbB hl1
   go_wp2_with fail
   refine cS.mono ?_
   rintro e w2 ⟨v2,rfl,ho2,hk2,hv2⟩
   have HO2:=lh ho2
   have HKV2:Hid (Kp (fun k=>(Value.slice A l.length c).ownBlock=some k) w w2∧∀ q,v2.ownBlock=some q→(Value.slice A l.length c).ownBlock=some q ∨ w.heap.size≤q):=lh ⟨HK.out.trans hk2 fun k hk h=>(HV.out k h).resolve_right (by omega),fun q hq=>(hv2 q hq).elim (HV.out q) fun h=>.inr (Nat.le_trans HK.out.size h)⟩
   obtain⟨A2,c2,rfl,_⟩:=own_shape ho2
   clear cS ho2 hk2 hv2 e1
   go_wp2_with fail
   go_roundw
   case rel=>exact⟨j+1,l2,by go_num,by omega,by rw[HL2.out,HL1.out,HTK.out];simp only[List.append_assoc],HO2.out,HKV2.out.1,HKV2.out.2⟩
   case measure=>simp[intOf];omega
  ·obtain rfl:j=fs.length:=by omega
   have HE:Hid (l++encL encS fs=l1):=lh (by rw[HL1.out,List.take_of_length_le (Nat.le_refl _)];rfl)
   clear hlt hj
   go_wp2_with fail
   go_ret
   exact⟨_,rfl,by rw[HE.out];exact HOW.out,HK.out,HV.out⟩
end
end
end Go.Proofs.YtmbnlccafcfbeaaDoor
