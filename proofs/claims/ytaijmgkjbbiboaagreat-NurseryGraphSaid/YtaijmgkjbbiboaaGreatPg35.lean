/- Parts of the proof: GraP, Gra10, PhF. -/
import Derived.Test.YtaijmgkjbbiboaaGreatPgA
import Derived.Test.YtaijmgkjbbiboaaGreatPg17
import Derived.Test.YtaijmgkjbbiboaaGreatPg19
import Derived.Test.YtaijmgkjbbiboaaGreatPg32
import Derived.Test.YtaijmgkjbbiboaaGreatPg34
set_option linter.unusedVariables false
set_option linter.unusedSimpArgs false
set_option linter.unusedSectionVars false
set_option maxRecDepth 100000
namespace Go.Proofs.YtaijmgkjbbiboaaGreat
section
theorem Mm.chain (m:Mm) {r:Int}:∀ (f:Nat) (a:Int),m.resN (f+1) a=some r→m.resN f a=none→∃ l:List Int,l.length=f+1∧l.Nodup∧∀ b∈l,(m.hdr b).1=0∧∃ k,k≤f∧m.resN (k+1) b=some r∧m.resN k b=none
 | 0,a,h,h0=>⟨[a],rfl,by simp,fun b hb=>by
   rw[List.mem_singleton.1 hb]
   refine⟨?_,0,Nat.le_refl _,h,rfl⟩
   unfold Mm.resN at h
   split at h
   ·cases h
   ·rename_i hn;exact Mm.nxt_hdr hn
   ·rename_i hn;exact Mm.nxt_hdr hn⟩
 | f+1,a,h,h0=>by
  have h':=h
  unfold Mm.resN at h'
  split at h'
  ·cases h'
  ·rename_i hn
   unfold Mm.resN at h0
   rw[hn] at h0
   cases h0
  ·rename_i c hn
   have h0':m.resN f c=none:=by
    unfold Mm.resN at h0
    rw[hn] at h0
    exact h0
   obtain⟨l,h1,h2,h3⟩:=Mm.chain m f c h' h0'
   refine⟨a::l,by simp[h1],List.nodup_cons.2 ⟨fun ha=>?_,h2⟩,fun b hb=>?_⟩
   ·obtain⟨_,k,hk,e1,_⟩:=h3 a ha
    have:=m.resN_mono (k+1) (f+1) e1 (by omega)
    rw[h0] at this
    cases this
   ·rcases List.mem_cons.1 hb with rfl | hb
    ·exact⟨Mm.nxt_hdr hn,f+1,Nat.le_refl _,h,h0⟩
    ·obtain⟨e0,k,hk,e1,e2⟩:=h3 b hb
     exact⟨e0,k,by omega,e1,e2⟩
theorem Mm.has_len (m:Mm) {l:List Int} (hn:l.Nodup) (h:∀ b∈l,m.has b=true):l.length≤m.size:=by
 have:=nodup_len l (((List.range m.old.ws.length).map fun(i:Nat)=>m.old.base+(i:Int))++(List.range m.yng.ws.length).map fun(i:Nat)=>m.yng.base+(i:Int)) hn fun y hy=>by
  have h1:=h y hy
  unfold Mm.has Mm.sp at h1
  split at h1
  ·have h2:=Spc.has_iff.1 h1
   exact List.mem_append.2 (.inl (List.mem_map.2 ⟨(y - m.old.base).toNat,List.mem_range.2 (by omega),by omega⟩))
  ·have h2:=Spc.has_iff.1 h1
   exact List.mem_append.2 (.inr (List.mem_map.2 ⟨(y - m.yng.base).toNat,List.mem_range.2 (by omega),by omega⟩))
 simpa [Mm.size] using this
theorem Mm.res_size (m:Mm) {a r:Int}:∀ f,m.resN f a=some r→m.resN m.size a=some r
 | 0,h=>by cases h
 | f+1,h=>by
  cases h0:m.resN f a with
  | some b =>
   obtain rfl:=Mm.resN_det h0 h
   exact Mm.res_size m f h0
  | none =>
   obtain⟨l,h1,h2,h3⟩:=m.chain f a h h0
   have:=m.has_len h2 fun b hb=>Mm.hdr_has (h3 b hb).1
   exact m.resN_mono _ _ h (by omega)
theorem Mm.resN_hdr {m:Mm} {f:Nat} {a r:Int} (h:m.resN f a=some r):(m.hdr a).1=0:=by
 cases f with
 | zero=>cases h
 | succ f =>
  unfold Mm.resN at h
  split at h
  ·cases h
  ·rename_i hn;exact Mm.nxt_hdr hn
  ·rename_i hn;exact Mm.nxt_hdr hn
theorem Mm.resolve_to {m:Mm} {a r:Int} {f:Nat} (h:m.resN f a=some r):m.resolve a=(r,0) :=
 Mm.resolve_of (Mm.hdr_has (Mm.resN_hdr h)) (m.resN_mono _ (m.size+1) (m.res_size f h) (by omega))
structure Gra (s:W10) (roots L U Z:List Int):Prop where
 fin:Fin10 s.m s.cs roots L U Z
 wf:Wf10 s
 cov:∀ b∈s.m.crossing fun _=>true,b∈s.m.crossing (cardIn s.cs)
/-- an object that is listed, if it is young -/
structure Gd (s:W10) (L:List Int) (r:Int):Prop where
 mem:r∈s.xs
 k:(s.m.hdr r).2.k≠4
 lst:Lst L r
def W10.to (s:W10) (L:List Int) (r:Int):Int:=newAt L (s.m.plc s.m.old.top L) r
section
variable {s:W10} {roots L U Z:List Int}
theorem Gra.ok (h:Gra s roots L U Z):s.m.Ok:=h.fin.ok
theorem Gra.hd (h:Gra s roots L U Z) {x:Int} (hx:x∈s.xs):(s.m.hdr x).1=0:=h.wf.lay.hd x hx
theorem Gra.obj (h:Gra s roots L U Z) {x:Int} (hx:x∈s.xs) (hl:x < 16777216):x∈s.m.old.objs∧s.m.old.has x=true∧x+wH (s.m.hdr x).2≤s.m.old.top:=by
 have h1:=(h.wf.lay.obj x).2 ⟨hx,hl⟩
 refine⟨h1,h.ok.hdr_old (h.hd hx) hl,?_⟩
 rcases h.wf.lay.end_ hx with ⟨_,h2⟩ | ⟨h2,_,_⟩
 ·exact h2
 ·have:=h.ok.yng_ge h2
  omega
theorem Gra.top (h:Gra s roots L U Z):s.m.old.top=(s.m.old.ws.length:Int):=by
 unfold Spc.top
 rw[h.ok.ob]
 omega
/-- a word of an old object, behind the collection -/
theorem Gra.oldw (h:Gra s roots L U Z) {x:Int} (hx:x∈s.xs) (hl:x < 16777216) {k:Int} (h2:2≤k) (hk:k < wH (s.m.hdr x).2):∃ v,s.m.at_ (x+k)=some v ∧
  ((k < 2+slotN (s.m.hdr x).2∧ygW v=true∧s.m.Met L v∧(s.m.mid U Z).emp.at_ (x+k)=some (s.m.mvd L (s.m.plc s.m.old.top L) v)) ∨ ((2+slotN (s.m.hdr x).2≤k ∨ ygW v=false)∧(s.m.mid U Z).emp.at_ (x+k)=some v)):=by
 obtain⟨g1,g2,g3⟩:=h.obj hx hl
 have g4:=Spc.has_iff.1 g2
 have ht:=h.top
 rw[h.ok.ob] at g4
 have hold:s.m.old.has (x+k)=true:=Spc.has_iff.2 ⟨by rw[h.ok.ob];omega,by rw[h.ok.ob];omega⟩
 obtain⟨v,hv,hat,hcr,_⟩:=h.fin.keep (a:=(x+k).toNat) (by omega)
 rw[Int.toNat_of_nonneg (by omega)] at hat hcr
 have e:s.m.at_ (x+k)=some v:=by
  unfold Mm.at_ Mm.sp
  rw[if_pos hold]
  exact Spc.at_of h.ok.ob (by omega) hv
 refine⟨v,e,?_⟩
 by_cases hm:x+k∈s.m.crossing (cardIn s.cs)
 ·rw[if_pos hm] at hat
  obtain⟨a,ha,i,hi,hb,v',hv',hy,_⟩:=Mm.crossing_mem.1 hm
  rw[e] at hv'
  cases hv'
  obtain⟨ha1,ha2⟩:=(h.wf.lay.obj a).1 ha
  have hs:=slotN_le (Mm.hdr_valid (h.hd ha1))
  have hax:a=x:=by
   rcases Int.lt_trichotomy a x with hlt | hlt | hlt
   ·have:=h.wf.lay.gap a ha1 x hx hlt;omega
   ·exact hlt
   ·have:=h.wf.lay.gap x hx a ha1 hlt;omega
  subst hax
  exact .inl ⟨by omega,hy,(hcr hm).1,hat⟩
 ·rw[if_neg hm] at hat
  refine .inr ⟨?_,hat⟩
  by_cases hs:2+slotN (s.m.hdr x).2≤k
  ·exact .inl hs
  ·cases hy:ygW v with
   | false=>exact .inr rfl
   | true =>
    exact absurd (h.cov _ (Mm.crossing_mem.2 ⟨x,g1,(k - 2).toNat,by omega,by omega,v,e,hy,rfl⟩)) hm
theorem Gra.to_old (h:Gra s roots L U Z) {r:Int} (hr:r < 16777216):s.to L r=r:=newAt_no fun hm=>by have:=(h.fin.hl.ok r hm).2.2;omega
theorem Gra.to_yng (h:Gra s roots L U Z) {i:Nat} {r:Int} (hr:L[i]?=some r):s.to L r=s.m.old.top+s.m.need (L.take i):=s.m.plc_at h.fin.hl.nd hr
theorem Gd.cases {r:Int} (hg:Gd s L r):r < 16777216 ∨ ∃ i:Nat,L[i]?=some r:=by
 by_cases hr:r < 16777216
 ·exact .inl hr
 ·exact .inr (List.getElem?_of_mem (hg.lst (by omega)))
/-- the object behind the collection: header and identity -/
theorem Gra.head (h:Gra s roots L U Z) {r:Int} (hg:Gd s L r):(s.m.mid U Z).emp.hdr (s.to L r)=s.m.hdr r∧(s.m.mid U Z).emp.at_ (s.to L r+1)=s.m.at_ (r+1)∧0≤s.to L r∧s.to L r < 16777216:=by
 have h0:=h.hd hg.mem
 have hrg:=hdr_rg h.ok h0
 have hn:=h.fin.newlt hrg.1 hg.lst
 rcases hg.cases with hl | ⟨i,hi⟩
 ·rw[h.to_old hl]
  obtain⟨g1,g2,g3⟩:=h.obj hg.mem hl
  have h4:=h.wf.lay.wge hg.mem
  have h5:=mid_hd h.ok h.fin.upd h.fin.laid h.fin.hf h0
  have h6:(s.m.mid U Z).old.has r=true:=h.fin.mok.hdr_old (by rw[h5];exact h0) hl
  refine⟨by rw[(Mm.emp_at h6).2.1,h5],?_,hrg.1,hl⟩
  have ht:=h.top
  obtain⟨v,hv,hat,hcr,_⟩:=h.fin.keep (a:=(r+1).toNat) (by omega)
  rw[Int.toNat_of_nonneg (by omega)] at hat hcr
  have e:s.m.at_ (r+1)=some v:=by
   unfold Mm.at_ Mm.sp
   rw[if_pos (Spc.has_iff.2 ⟨by rw[h.ok.ob];omega,by rw[h.ok.ob];omega⟩)]
   exact Spc.at_of h.ok.ob (by omega) hv
  have hm:¬ r+1∈s.m.crossing (cardIn s.cs):=fun hm=>by
   obtain⟨a,ha,i,hi,hb,_⟩:=Mm.crossing_mem.1 hm
   obtain⟨ha1,ha2⟩:=(h.wf.lay.obj a).1 ha
   have hs:=slotN_le (Mm.hdr_valid (h.hd ha1))
   rcases Int.lt_trichotomy a r with hlt | hlt | hlt
   ·have:=h.wf.lay.gap a ha1 r hg.mem hlt;omega
   ·omega
   ·omega
  rw[if_neg hm] at hat
  rw[hat,e]
 ·rw[h.to_yng hi]
  have h1:=h.fin.copy hi
  have h2:=h.to_yng hi
  unfold W10.to at h2
  rw[h2] at hn
  refine⟨?_,h1.2,hn⟩
  rw[h1.1]
  exact Prod.ext h0.symm rfl
theorem Gra.self (h:Gra s roots L U Z) {r:Int} (hg:Gd s L r):(s.m.mid U Z).emp.resN 1 (s.to L r)=some (s.to L r):=by
 have h1:=(h.head hg).1
 unfold Mm.resN
 rw[Mm.nxt_self (by rw[h1];exact h.hd hg.mem) (by rw[h1];exact hg.k)]
theorem Gra.inj (h:Gra s roots L U Z) {r q:Int} (hr:Gd s L r) (hq:Gd s L q) (e:s.to L r=s.to L q):r=q:=by
 have key:∀ {a b:Int},Gd s L a→a < 16777216→∀ {i:Nat},L[i]?=some b→s.to L a=s.to L b→False:=fun {a b} ha hl {i} hi e=>by
  rw[h.to_old hl,h.to_yng hi] at e
  have h1:=(h.obj ha.mem hl).2.2
  have h2:=h.wf.lay.wge ha.mem
  have h3:=s.m.need_nn (L.take i)
  omega
 have key2:∀ {i j:Nat} {a b:Int},L[i]?=some a→L[j]?=some b→i < j→s.m.need (L.take i) < s.m.need (L.take j):=fun {i j a b} ha hb hij=>by
  have h1:=s.m.need_step ha
  have h2:=wH_ge (Mm.hdr_valid (h.fin.hl.ok a (List.mem_of_getElem? ha)).1)
  have h3:L.take j=L.take (i+1)++(L.take j).drop (i+1):=by
   conv=>lhs;rw[← List.take_append_drop (i+1) (L.take j)]
   rw[List.take_take,Nat.min_eq_left (by omega)]
  rw[h3,s.m.need_app]
  have h4:=s.m.need_nn ((L.take j).drop (i+1))
  omega
 rcases hr.cases with hl | ⟨i,hi⟩
 ·rcases hq.cases with hl2 | ⟨j,hj⟩
  ·rw[h.to_old hl,h.to_old hl2] at e
   exact e
  ·exact(key hr hl hj e).elim
 ·rcases hq.cases with hl2 | ⟨j,hj⟩
  ·exact(key hq hl2 hi e.symm).elim
  ·rw[h.to_yng hi,h.to_yng hj] at e
   rcases Nat.lt_trichotomy i j with hij | hij | hij
   ·have:=key2 hi hj hij;omega
   ·subst hij
    rw[hi] at hj
    exact Option.some.inj hj
   ·have:=key2 hj hi hij;omega
theorem Gra.res_mem (h:Gra s roots L U Z):∀ (f:Nat) {a r:Int},s.m.resN f a=some r→a∈s.xs→r∈s.xs
 | 0,a,r,hr,_=>by cases hr
 | f+1,a,r,hr,ha=>by
  unfold Mm.resN at hr
  split at hr
  ·cases hr
  ·cases hr
   exact ha
  ·rename_i c hn
   obtain⟨h0,h4,hc⟩:=Mm.nxt_fw2 hn
   have hs:slotN (s.m.hdr a).2=1:=by
    unfold slotN
    rw[if_neg (by omega),if_pos h4]
   refine Gra.res_mem h f hr (h.wf.wrd a ha 0 (by rw[hs];decide) c ?_)
   rw[show a+2+((0:Nat):Int)=a+2 by omega]
   exact hc
theorem Gra.met (h:Gra s roots L U Z) {x b:Int} (hx:adr x=some b) (hy:ygW x=true) (hm:s.m.Met L x) (hb:b∈s.xs):(s.m.resolve b).2=0∧Gd s L (s.m.resolve b).1∧s.m.mvd L (s.m.plc s.m.old.top L) x=frW (s.to L (s.m.resolve b).1):=by
 have h1:s.m.ld x=s.m.rfr x:=by unfold Mm.ld;rw[if_pos hy]
 have h2:(s.m.resolve b).2=0:=by
  have h3:=hm.1
  rw[h1] at h3
  unfold Mm.rfr at h3
  rw[hx] at h3
  dsimp only at h3
  split at h3
  ·assumption
  ·exact absurd rfl h3
 have h3:s.m.ld x=some (some (s.m.resolve b).1):=by
  rw[h1]
  unfold Mm.rfr
  rw[hx]
  dsimp only
  rw[if_pos h2]
 have h4:=(Mm.resolve_ok h2).2
 refine⟨h2,⟨h.res_mem _ h4 hb,(Mm.nxt_none (s.m.resN_nxt _ _ _ h4)).2,hm.2 _ h3⟩,Mm.mvd_to h3⟩
theorem Gra.fwd (h:Gra s roots L U Z):∀ (f:Nat) {a r:Int},s.m.resN f a=some r→a∈s.xs→a < 16777216→Gd s L r∧∃ g,(s.m.mid U Z).emp.resN g a=some (s.to L r)
 | 0,a,r,hr,_,_=>by cases hr
 | f+1,a,r,hr,ha,hl=>by
  have hr0:=hr
  unfold Mm.resN at hr
  split at hr
  ·cases hr
  ·rename_i hn
   cases hr
   have hg:Gd s L a:=⟨ha,(Mm.nxt_none hn).2,fun h=>by omega⟩
   have:=h.self hg
   rw[h.to_old hl] at this ⊢
   exact⟨hg,1,this⟩
  ·rename_i c hn
   obtain⟨h0,h4,hc⟩:=Mm.nxt_fw2 hn
   have hs:slotN (s.m.hdr a).2=1:=by
    unfold slotN
    rw[if_neg (by omega),if_pos h4]
   have hcx:c∈s.xs:=h.wf.wrd a ha 0 (by rw[hs];decide) c (by
    rw[show a+2+((0:Nat):Int)=a+2 by omega]
    exact hc)
   have h5:=mid_hd h.ok h.fin.upd h.fin.laid h.fin.hf h0
   have h6:(s.m.mid U Z).old.has a=true:=h.fin.mok.hdr_old (by rw[h5];exact h0) hl
   have h7:(s.m.mid U Z).emp.hdr a=s.m.hdr a:=by rw[(Mm.emp_at h6).2.1,h5]
   have hw:=h.wf.lay.wge ha
   obtain⟨v,hv,hcase⟩:=h.oldw ha hl (k:=2) (by omega) (by omega)
   rw[hv] at hc
   simp only[Option.getD_some] at hc
   rcases hcase with ⟨_,hy,hm,hat⟩ | ⟨hy,hat⟩
   ·obtain⟨g1,g2,g3⟩:=h.met hc hy hm hcx
    have e:(s.m.resolve c).1=r:=Mm.resN_det (Mm.resolve_ok g1).2 hr
    rw[e] at g2 g3
    refine⟨g2,2,?_⟩
    have hn:=h.head g2
    unfold Mm.resN
    rw[Mm.nxt_to (c:=s.to L r) (by rw[h7];exact h0) (by rw[h7];exact h4) (by rw[hat,g3];exact adr_frW hn.2.2.1 (by omega))]
    exact h.self g2
   ·have hy':ygW v=false:=by
     rcases hy with hy | hy
     ·omega
     ·exact hy
    have hcl:c < 16777216:=by
     unfold ygW at hy'
     rw[hc] at hy'
     simpa using hy'
    obtain⟨g1,g,g2⟩:=Gra.fwd h f hr hcx hcl
    refine⟨g1,g+1,?_⟩
    unfold Mm.resN
    rw[Mm.nxt_to (c:=c) (by rw[h7];exact h0) (by rw[h7];exact h4) (by rw[hat];exact hc)]
    exact g2
/-- a word and the word behind the collection: they lead to nothing and are the same, or lead to an object and its copy -/
inductive Cmp (s:W10) (L:List Int) (n:Mm) (x y:Int):Prop
 | none:adr x=none→x=y→Cmp s L n x y
 | bad (a:Int):adr x=some a→(s.m.resolve a).2≠0→x=y→Cmp s L n x y
 | obj (a b r:Int):adr x=some a→s.m.resolve a=(r,0)→adr y=some b→n.resolve b=(s.to L r,0)→Gd s L r→Cmp s L n x y
theorem Gra.cmp_moved (h:Gra s roots L U Z) {x:Int} (hx:∀ b,adr x=some b→b∈s.xs) (hy:ygW x=true) (hm:s.m.Met L x):Cmp s L (s.m.mid U Z).emp x (s.m.mvd L (s.m.plc s.m.old.top L) x):=by
 cases ha:adr x with
 | none=>unfold ygW at hy;rw[ha] at hy;cases hy
 | some b =>
  obtain⟨g1,g2,g3⟩:=h.met ha hy hm (hx b ha)
  have hn:=h.head g2
  rw[g3]
  exact .obj b (s.to L (s.m.resolve b).1) _ ha (Prod.ext rfl g1) (adr_frW hn.2.2.1 (by omega)) (Mm.resolve_to (h.self g2)) g2
theorem Gra.cmp_same (h:Gra s roots L U Z) {x:Int} (hx:∀ b,adr x=some b→b∈s.xs) (hy:ygW x=false):Cmp s L (s.m.mid U Z).emp x x:=by
 cases ha:adr x with
 | none=>exact .none ha rfl
 | some b =>
  by_cases hr:(s.m.resolve b).2=0
  ·have h1:=(Mm.resolve_ok hr).2
   have hl:b < 16777216:=by
    unfold ygW at hy
    rw[ha] at hy
    simpa using hy
   obtain⟨g1,g,g2⟩:=h.fwd _ h1 (hx b ha) hl
   exact .obj b b _ ha (Prod.ext rfl hr) ha (Mm.resolve_to g2) g1
  ·exact .bad b ha hr rfl
theorem Gra.cmp_met (h:Gra s roots L U Z) {x:Int} (hx:∀ b,adr x=some b→b∈s.xs) (hm:s.m.Met L x):Cmp s L (s.m.mid U Z).emp x (s.m.mvd L (s.m.plc s.m.old.top L) x):=by
 cases hy:ygW x with
 | true=>exact h.cmp_moved hx hy hm
 | false =>
  have:s.m.mvd L (s.m.plc s.m.old.top L) x=x:=by
   unfold Mm.mvd Mm.ld
   rw[if_neg (by rw[hy];simp)]
  rw[this]
  exact h.cmp_same hx hy
/-- a word of an object and of its copy -/
theorem Gra.words (h:Gra s roots L U Z) {r:Int} (hg:Gd s L r) {j:Nat} (hj:(j:Int)+2 < wH (s.m.hdr r).2):∃ x y,s.m.at_ (r+2+(j:Int))=some x∧(s.m.mid U Z).emp.at_ (s.to L r+2+(j:Int))=some y∧((j:Int) < slotN (s.m.hdr r).2→Cmp s L (s.m.mid U Z).emp x y)∧(slotN (s.m.hdr r).2≤(j:Int)→x=y):=by
 have hw:=h.wf.wrd r hg.mem j
 rcases hg.cases with hl | ⟨i,hi⟩
 ·rw[h.to_old hl]
  obtain⟨v,hv,hc⟩:=h.oldw hg.mem hl (k:=2+(j:Int)) (by omega) (by omega)
  rw[show r+(2+(j:Int))=r+2+(j:Int) by omega] at hv hc
  rw[hv] at hw
  simp only[Option.getD_some] at hw
  rcases hc with ⟨h1,hy,hm,hat⟩ | ⟨h1,hat⟩
  ·exact⟨v,_,hv,hat,fun h2=>h.cmp_moved (hw h2) hy hm,fun h2=>by omega⟩
  ·refine⟨v,v,hv,hat,fun h2=>h.cmp_same (hw h2) ?_,fun _=>rfl⟩
   rcases h1 with h1 | h1
   ·omega
   ·exact h1
 ·have h1:=h.fin.word hi (k:=2+j) (by omega)
  rw[← h.to_yng hi] at h1
  rw[show s.to L r+((2+j:Nat):Int)=s.to L r+2+(j:Int) by omega,show r+((2+j:Nat):Int)=r+2+(j:Int) by omega] at h1
  have hh:=(h.ok.has_near (h.hd hg.mem) (j:=2+(j:Int)) (by omega) (by omega)).1
  obtain⟨_,_,_,v,_,hv⟩:=Spc.at_some hh
  have hv3:s.m.at_ (r+2+(j:Int))=some v:=by
   rw[show r+2+(j:Int)=r+(2+(j:Int)) by omega]
   exact hv
  rw[hv3] at h1 hw
  simp only[Option.getD_some] at h1 hw
  refine⟨v,_,hv3,h1,fun h2=>?_,fun h2=>?_⟩
  ·rw[if_pos (by omega)]
   refine h.cmp_met (hw h2) (h.fin.sl r (List.mem_of_getElem? hi) _ ?_)
   unfold Mm.slW
   exact List.mem_map.2 ⟨j,List.mem_range.2 (by omega),by rw[hv3];rfl⟩
  ·rw[if_neg (by omega)]
/-- roots -/
theorem Gra.root (h:Gra s roots L U Z) {x:Int} (hx:x∈roots) {choices:List Int} (hr:roots=rts10 s.xs choices):Cmp s L (s.m.mid U Z).emp x (s.m.mvd L (s.m.plc s.m.old.top L) x):=by
 refine h.cmp_met (fun b hb=>?_) (h.fin.rt x hx)
 rw[hr] at hx
 unfold rts10 at hx
 obtain⟨c,_,rfl⟩:=List.mem_map.1 hx
 split at hb
 ·rename_i hc
  have hm:=objAt_mem hc.2 c
  have hrg:=hdr_rg h.ok (h.hd hm)
  rw[adr_frW hrg.1 hrg.2] at hb
  cases hb
  exact hm
 ·have e0:adr 21=none:=by decide
  rw[e0] at hb
  cases hb
/-- old objects -/
theorem Gra.before (h:Gra s roots L U Z) {a:Int} (ha:a∈s.m.old.objs):0≤a∧a < 16777216∧Cmp s L (s.m.mid U Z).emp (frW a) (frW a):=by
 obtain⟨h1,h2⟩:=(h.wf.lay.obj a).1 ha
 have hrg:=hdr_rg h.ok (h.hd h1)
 refine⟨hrg.1,h2,h.cmp_same (fun b hb=>?_) ?_⟩
 ·rw[adr_frW hrg.1 hrg.2] at hb
  cases hb
  exact h1
 ·rw[ygW_frW hrg.1 hrg.2]
  exact decide_eq_false (by omega)
/-- no more objects than words -/
theorem Gra.few (h:Gra s roots L U Z) {K:List Int} (hn:K.Nodup) (hg:∀ r∈K,Gd s L r):K.length≤s.m.size:=s.m.has_len hn fun b hb=>Mm.hdr_has (h.hd (hg b hb).mem)
end
end
section
open Go.RowKit Go.Sort
attribute [local go_sem] Oper.semAt_some onlyN_normal
theorem RKind_any {x:Int} (hx:U64 x) (w:World):Calls Tryz.prog 40 #[.int .u64 x] w fun e w'=>∃ k,e=.returned (.int .i64 k)∧w=w'∧(k=2↔(adr x).isSome=true):=by
 have hb:=hx.1
 have hu:=hx.2
 have cA:=RAddress_any hx w
 unfold adrV at cA
 by_cases h0:x=0
 ·subst h0
  clear cA
  go_enter Tryz.func40,Tryz.ntmps40
  go_wp2_with fail
  go_ret
  exact⟨0,rfl,rfl,by decide⟩
 ·have d0:(x == 0)=false:=by simpa using h0
  have HX:=lh (show x % 4≠2→(adr x).isSome=false from fun h=>by unfold adr;rw[if_neg (fun e=>h e.1)];rfl)
  by_cases h1:x % 4=1
  ·have HF:=lh (HX.out (by omega))
   have d1:(x % 4 == 1)=true:=by simp[h1]
   clear h1 cA HX h0
   go_enter Tryz.func40,Tryz.ntmps40
   go_wp2_with fail
   go_ret
   exact⟨1,rfl,rfl,by rw[HF.out];decide⟩
  ·have d1:(x % 4 == 1)=false:=by simpa using h1
   by_cases h3:x % 4=3
   ·have HF:=lh (HX.out (by omega))
    have d3:(x % 4 == 3)=true:=by simp[h3]
    clear h1 h3 cA HX h0
    go_enter Tryz.func40,Tryz.ntmps40
    go_wp2_with fail
    go_ret
    exact⟨3,rfl,rfl,by rw[HF.out];decide⟩
   ·have d3:(x % 4 == 3)=false:=by simpa using h3
    clear HX h1 h3 h0
    cases h:adr x with
    | none =>
     rw[h] at cA
     dsimp only at cA
     clear h
     go_enter Tryz.func40,Tryz.ntmps40
     go_wp2_with fail
     refine cA.mono ?_
     rintro e w' ⟨rfl,rfl⟩
     clear cA
     go_wp2_with fail
     go_ret
     exact⟨-1,rfl,rfl,by decide⟩
    | some a =>
     rw[h] at cA
     dsimp only at cA
     clear h
     go_enter Tryz.func40,Tryz.ntmps40
     go_wp2_with fail
     refine cA.mono ?_
     rintro e w' ⟨rfl,rfl⟩
     clear cA
     go_wp2_with fail
     go_ret
     exact⟨2,rfl,rfl,by simp⟩
/-- what plain asks of an operation -/
def plO (o:OpV):Bool:=!(decide (o.k=4)) && (o.r || !(adr o.w).isSome)
theorem plO_ok {o:OpV} (h:plO o=true) (hu:U64 o.w):Pl10 o:=by
 unfold plO at h
 simp only[Bool.and_eq_true,Bool.not_eq_true',decide_eq_false_iff_not,Bool.or_eq_true] at h
 refine⟨h.1,fun hr=>?_,hu⟩
 rcases h.2 with e | e
 ·rw[hr] at e;cases e
 ·cases ha:adr o.w with
  | none=>rfl
  | some a=>rw[ha] at e;cases e
theorem take_all {o:OpV} {l:List OpV} {j:Nat} (h:l[j]?=some o) (p:OpV→Bool):(l.take (j+1)).all p=((l.take j).all p && p o):=by
 rw[List.take_add_one,h,List.all_append];simp
set_option maxHeartbeats 4000000 in
theorem Plain10_any {w:World} {Al:Option Addr} {cl:Nat} {l:List OpV} (hl:Op10 w Al l) (hcl:l.length≤cl) (hn:l.length≤1000000):Calls Tryz.prog 11 #[.slice Al l.length cl] w fun e w'=>e=.returned (.bool (l.all plO))∧w=w':=by
 have HL:=lh hl
 clear hl
 go_enter Tryz.func11,Tryz.ntmps11
 go_wp2_with fail
 go_loop [3] (fun i=>∃ j:Nat,i=.int .i64 (j:Int)∧j≤l.length∧(l.take j).all plO=true) (fun i=>l.length - (intOf i).toNat)
 case atStart=>exact⟨0,rfl,Nat.zero_le _,rfl⟩
 case round =>
  obtain⟨j,rfl,hj,hall⟩:=hrel
  have HA:=lh hall
  clear hall
  by_cases hlt:j < l.length
  ·have hx:l[j]?=some l[j]:=List.getElem?_eq_getElem hlt
   have hta:=take_all hx plO
   have htr:l.all plO=((l.take (j+1)).all plO && (l.drop (j+1)).all plO):=by
    conv=>lhs;rw[← List.take_append_drop (j+1) l]
    rw[List.all_append]
   rw[hta,HA.out,Bool.true_and] at htr
   rw[HA.out,Bool.true_and] at hta
   obtain⟨bb,oo,hA,hbl,hc⟩:=HL.out.resolve_left (fun e=>by rw[e] at hlt;simp at hlt)
   obtain⟨hok,hcell⟩:=hc j _ hx
   subst hA
   generalize l[j]=o at *
   have HTA:=lh hta
   have HTR:=lh htr
   have hu:=hok.w
   obtain⟨k,hd,a,b,i,xw,r⟩:=o
   unfold OpV.cells at hcell
   have c0:w.cell? ⟨bb,oo+j*9,none⟩=some (.int .u8 k):=hcell 0 _ rfl
   have c5:=hcell 7 _ rfl
   have c6:=hcell 8 _ rfl
   have cK:=fun w=>RKind_any hu w
   dsimp only at cK
   clear hc hcell hx hta htr
   by_cases hk:k=4
   ·subst hk
    have HF:Hid (l.all plO=false):=lh (by rw[HTR.out];rfl)
    clear cK
    go_wp2_with fail
    go_ret
    exact⟨ret_bool HF.out.symm,rfl⟩
   ·have dk:(k == 4)=false:=by simpa using hk
    have dk2:decide (k=4)=false:=decide_eq_false hk
    cases r with
    | true =>
     have HP:Hid ((l.take (j+1)).all plO=true):=lh (by rw[HTA.out];unfold plO;simp[hk])
     clear cK hk dk2
     go_wp2_with fail
     go_round
     case rel=>exact⟨j+1,by go_num,by omega,HP.out⟩
     case measure=>simp[intOf];omega
    | false =>
     cases ha:adr xw with
     | none =>
      have HP:Hid ((l.take (j+1)).all plO=true):=lh (by rw[HTA.out];unfold plO;simp[hk,ha])
      rw[ha] at cK
      clear hk dk2 ha
      go_wp2_with fail
      refine(cK _).mono ?_
      rintro e w1 ⟨q,rfl,rfl,hq⟩
      have dq:(q == 2)=false:=by
       have:q≠2:=fun e=>by have:=hq.1 e;cases this
       simpa using this
      clear cK hq
      go_wp2_with fail
      go_round
      case rel=>exact⟨j+1,by go_num,by omega,HP.out⟩
      case measure=>simp[intOf];omega
     | some ad =>
      have HF:Hid (l.all plO=false):=lh (by rw[HTR.out];unfold plO;simp[hk,ha])
      rw[ha] at cK
      clear hk dk2 ha
      go_wp2_with fail
      refine(cK _).mono ?_
      rintro e w1 ⟨q,rfl,rfl,hq⟩
      obtain rfl:q=2:=hq.2 rfl
      clear cK hq
      go_wp2_with fail
      go_ret
      exact⟨ret_bool HF.out.symm,rfl⟩
  ·obtain rfl:j=l.length:=by omega
   have HF:Hid (l.all plO=true):=lh (by have:=HA.out;rwa [List.take_of_length_le (Nat.le_refl _)] at this)
   clear HA
   go_wp2_with fail
   go_ret
   exact⟨ret_bool HF.out.symm,rfl⟩
/-- pairs of objects as cells -/
def PrC (f:Int→Int) (K:List Int):List Value:=K.flatMap fun r=>[.int .i64 r,.int .i64 (f r)]
theorem PrC_snoc (f:Int→Int) (K:List Int) (r:Int):PrC f (K++[r])=PrC f K++[.int .i64 r,.int .i64 (f r)]:=by unfold PrC;rw[List.flatMap_append];rfl
theorem PrC_get (f:Int→Int):∀ {K:List Int} {j:Nat} {r:Int},K[j]?=some r→(PrC f K)[j*2]?=some (.int .i64 r)∧(PrC f K)[j*2+1]?=some (.int .i64 (f r))
 | x::K,0,r,h=>by cases h;exact⟨rfl,rfl⟩
 | x::K,j+1,r,h=>by
  have:=PrC_get f (K:=K) (j:=j) (r:=r) h
  rw[show(j+1)*2=j*2+1+1 by omega]
  exact this
structure Prs (s:W10) (L K:List Int):Prop where
 nd:K.Nodup
 gd:∀ r∈K,Gd s L r
def CmpP10 (B0:Nat) (w:World) (V:Value) (s:W10) (L K:List Int) (e:Ending) (w':World):Prop:=∃ v K',e=.returned (.tuple #[v,.bool true])∧w'.ownsRow B0 62 2 v K'.length (PrC (s.to L) K')∧Kp (fun k=>V.ownBlock=some k) w w'∧(∀ q,v.ownBlock=some q→V.ownBlock=some q ∨ w.heap.size≤q)∧Prs s L K'∧∃ T,K'=K++T
theorem cells_new10 (w:World) (t:TypeId) (l:List Value):∀ (j:Nat) (u:Value),l[j]?=some u→(w.alloc (.cells l.toArray t)).cell? ((⟨w.heap.size,0,none⟩:Addr).add j)=some u:=fun j u h=>by
 have h1:=(Bk.new w t l.toArray).cell j
 rw[show(⟨w.heap.size,0,none⟩:Addr).add j=⟨w.heap.size,j,none⟩ by simp[Addr.add];exact fun h=>h.symm]
 rw[h1]
 simpa using h
theorem i_pair10:(Tryz.prog.info? 62).map (fun i=>(i.zero,i.size,i.bytes))=some (some (.agg #[.int .i64 0,.int .i64 0]),2,16):=by kernel_rfl
section
variable {w:World} {B B0 g1 g2:Nat} {V1 V2:Value} {s:W10} {n:Mm} {A1 A2 Al:Option Addr} {u1 u2 cl:Nat} {K L:List Int} {x y:Int} {roots U Z:List Int}
set_option maxHeartbeats 8000000 in
theorem Compare10_any (hg:Gra s roots L U Z) (hr:RM w s.m A1 u1 A2 u2) (hm:MR w B g1 g2 V1 V2 n) (ho:w.ownsRow B0 62 2 (.slice Al K.length cl) K.length (PrC (s.to L) K)) (hb0:B0≤w.heap.size) (hp:Prs s L K) (hc:Cmp s L n x y) (hx:U64 x) (hy:U64 y) (hz:s.m.size≤40000000):Calls Tryz.prog 18 #[.agg #[.int .i64 s.m.old.base,.int .i64 s.m.old.limit,.slice A1 s.m.old.ws.length u1,.int .i64 s.m.yng.base,.int .i64 s.m.yng.limit,.slice A2 s.m.yng.ws.length u2],.agg #[.pointer (some ⟨g1,0,none⟩),.pointer (some ⟨g2,0,none⟩)],.slice Al K.length cl,.int .u64 x,.int .u64 y] w (CmpP10 B0 w (.slice Al K.length cl) s L K):=by
 have hb1:Below w.heap.size w ((w.alloc (.cells #[.int .i64 s.m.old.base,.int .i64 s.m.old.limit,.slice A1 s.m.old.ws.length u1,.int .i64 s.m.yng.base,.int .i64 s.m.yng.limit,.slice A2 s.m.yng.ws.length u2] 35)).alloc (.cells #[.pointer (some ⟨g1,0,none⟩),.pointer (some ⟨g2,0,none⟩)] 29)):=((Below.refl _ w).alloc (Nat.le_refl _) _).alloc (by simp) _
 have HBR:Hid (Bk ((w.alloc (.cells #[.int .i64 s.m.old.base,.int .i64 s.m.old.limit,.slice A1 s.m.old.ws.length u1,.int .i64 s.m.yng.base,.int .i64 s.m.yng.limit,.slice A2 s.m.yng.ws.length u2] 35)).alloc (.cells #[.pointer (some ⟨g1,0,none⟩),.pointer (some ⟨g2,0,none⟩)] 29)) w.heap.size 35 #[.int .i64 s.m.old.base,.int .i64 s.m.old.limit,.slice A1 s.m.old.ws.length u1,.int .i64 s.m.yng.base,.int .i64 s.m.yng.limit,.slice A2 s.m.yng.ws.length u2]):=lh (Bk.alloc (Bk.new _ _ _) _)
 have HBM:Hid (Bk ((w.alloc (.cells #[.int .i64 s.m.old.base,.int .i64 s.m.old.limit,.slice A1 s.m.old.ws.length u1,.int .i64 s.m.yng.base,.int .i64 s.m.yng.limit,.slice A2 s.m.yng.ws.length u2] 35)).alloc (.cells #[.pointer (some ⟨g1,0,none⟩),.pointer (some ⟨g2,0,none⟩)] 29)) (w.heap.size+1) 29 #[.pointer (some ⟨g1,0,none⟩),.pointer (some ⟨g2,0,none⟩)]):=lh (Bk.here _ _ _ (by simp))
 have HR:=lh (hr.below hb1)
 have HM:=lh (hm.below hb1)
 have HO:=lh (own_local ho fun k hk=>hb1.block k (ho.lt k hk).2)
 have HP:=lh hp
 have HB:=lh hb1
 have HG:=lh hg
 have HC:=lh hc
 have hkl:K.length≤40000000:=Nat.le_trans (hg.few hp.nd hp.gd) hz
 have HU:=lh (And.intro hx hy)
 have HB0:=lh hb0
 have cX:=fun w=>RAddress_any hx w
 have cY:=fun w=>RAddress_any hy w
 unfold adrV at cX cY
 have hcl:K.length≤cl:=(own_shape ho).elim fun _ h=>h.elim fun _ h=>by have h1:=h.1;injection h1 with _ _ e3;have:=h.2;omega
 clear hr hm ho hp hg hc hx hy hb0 hz
 have hcases:(adr x=none∧x=y) ∨ (∃ a,adr x=some a∧(s.m.resolve a).2≠0∧x=y) ∨ ∃ a b r,adr x=some a∧s.m.resolve a=(r,0)∧adr y=some b∧n.resolve b=(s.to L r,0)∧Gd s L r:=by
  rcases HC.out with ⟨h1,h2⟩ | ⟨a,h1,h2,h3⟩ | ⟨a,b,r,h1,h2,h3,h4,h5⟩
  ·exact .inl ⟨h1,h2⟩
  ·exact .inr (.inl ⟨a,h1,h2,h3⟩)
  ·exact .inr (.inr ⟨a,b,r,h1,h2,h3,h4,h5⟩)
 clear HC
 rcases hcases with ⟨ha,rfl⟩ | ⟨a,ha,he,rfl⟩ | ⟨a,b,r,ha,hra,hb,hrb,hgd⟩
 ·rw[ha] at cX
  dsimp only at cX
  clear ha cY
  go_enter Tryz.func18,Tryz.ntmps18
  go_upto_region 1 with fail
  generalize ((w.alloc (.cells #[.int .i64 s.m.old.base,.int .i64 s.m.old.limit,.slice A1 s.m.old.ws.length u1,.int .i64 s.m.yng.base,.int .i64 s.m.yng.limit,.slice A2 s.m.yng.ws.length u2] 35)).alloc (.cells #[.pointer (some ⟨g1,0,none⟩),.pointer (some ⟨g2,0,none⟩)] 29))=w0 at *
  obtain⟨br,hbr⟩:∃ br,br=w.heap.size:=⟨_,rfl⟩
  obtain⟨bm,hbm⟩:∃ bm,bm=w.heap.size+1:=⟨_,rfl⟩
  rw[← hbm] at HBM
  rw[← hbr] at HBR
  rw[← hbm,← hbr]
  clear hbr hbm
  go_wp2_with fail
  refine(cX _).mono ?_
  rintro e w1 ⟨rfl,rfl⟩
  clear cX
  go_wp2_with fail
  go_ret2
  exact⟨_,K,rfl,HO.out,Kp.of_below HB.out,fun q hq=>.inl hq,HP.out,[],by simp⟩
 ·rw[ha] at cX
  dsimp only at cX
  have cR:=RResolve_any HR.out HG.out.ok a
  unfold rmV at cR
  obtain⟨⟨r,er⟩,hre⟩:∃ q,q=s.m.resolve a:=⟨_,rfl⟩
  rw[← hre] at cR he
  dsimp only at cR he
  have d1:(er != 0)=true:=by simpa using he
  clear ha cY hre he
  go_enter Tryz.func18,Tryz.ntmps18
  go_upto_region 1 with fail
  generalize ((w.alloc (.cells #[.int .i64 s.m.old.base,.int .i64 s.m.old.limit,.slice A1 s.m.old.ws.length u1,.int .i64 s.m.yng.base,.int .i64 s.m.yng.limit,.slice A2 s.m.yng.ws.length u2] 35)).alloc (.cells #[.pointer (some ⟨g1,0,none⟩),.pointer (some ⟨g2,0,none⟩)] 29))=w0 at *
  obtain⟨br,hbr⟩:∃ br,br=w.heap.size:=⟨_,rfl⟩
  obtain⟨bm,hbm⟩:∃ bm,bm=w.heap.size+1:=⟨_,rfl⟩
  rw[← hbm] at HBM
  rw[← hbr] at HBR
  rw[← hbm,← hbr]
  clear hbr hbm
  have r0:w0.cell? ⟨br,0,none⟩=some (.int .i64 s.m.old.base):=HBR.out.cell 0
  have r1:w0.cell? ⟨br,1,none⟩=some (.int .i64 s.m.old.limit):=HBR.out.cell 1
  have r2:w0.cell? ⟨br,2,none⟩=some (.slice A1 s.m.old.ws.length u1):=HBR.out.cell 2
  have r3:w0.cell? ⟨br,3,none⟩=some (.int .i64 s.m.yng.base):=HBR.out.cell 3
  have r4:w0.cell? ⟨br,4,none⟩=some (.int .i64 s.m.yng.limit):=HBR.out.cell 4
  have r5:w0.cell? ⟨br,5,none⟩=some (.slice A2 s.m.yng.ws.length u2):=HBR.out.cell 5
  go_wp2_with fail
  refine(cX _).mono ?_
  rintro e w1 ⟨rfl,rfl⟩
  clear cX
  go_wp2_with fail
  refine cR.mono ?_
  rintro e w1 ⟨rfl,hb2⟩
  have HB2:=lh (HB.out.trans (hb2.mono HB.out.size))
  have HO2:=lh (own_local HO.out fun k hk=>hb2.block k (HO.out.lt k hk).2)
  clear cR r0 r1 r2 r3 r4 r5 hb2
  go_wp2_with fail
  go_ret2
  exact⟨_,K,rfl,HO2.out,Kp.of_below HB2.out,fun q hq=>.inl hq,HP.out,[],by simp⟩
 ·rw[ha] at cX
  rw[hb] at cY
  dsimp only at cX cY
  have HRA:=lh hra
  have HRB:=lh hrb
  have HGD:=lh hgd
  clear ha hb hra hrb hgd
  go_enter Tryz.func18,Tryz.ntmps18
  go_upto_region 1 with fail
  generalize ((w.alloc (.cells #[.int .i64 s.m.old.base,.int .i64 s.m.old.limit,.slice A1 s.m.old.ws.length u1,.int .i64 s.m.yng.base,.int .i64 s.m.yng.limit,.slice A2 s.m.yng.ws.length u2] 35)).alloc (.cells #[.pointer (some ⟨g1,0,none⟩),.pointer (some ⟨g2,0,none⟩)] 29))=w0 at *
  obtain⟨br,hbr⟩:∃ br,br=w.heap.size:=⟨_,rfl⟩
  obtain⟨bm,hbm⟩:∃ bm,bm=w.heap.size+1:=⟨_,rfl⟩
  rw[← hbm] at HBM
  rw[← hbr] at HBR
  rw[← hbm,← hbr]
  clear hbr hbm
  have r0:w0.cell? ⟨br,0,none⟩=some (.int .i64 s.m.old.base):=HBR.out.cell 0
  have r1:w0.cell? ⟨br,1,none⟩=some (.int .i64 s.m.old.limit):=HBR.out.cell 1
  have r2:w0.cell? ⟨br,2,none⟩=some (.slice A1 s.m.old.ws.length u1):=HBR.out.cell 2
  have r3:w0.cell? ⟨br,3,none⟩=some (.int .i64 s.m.yng.base):=HBR.out.cell 3
  have r4:w0.cell? ⟨br,4,none⟩=some (.int .i64 s.m.yng.limit):=HBR.out.cell 4
  have r5:w0.cell? ⟨br,5,none⟩=some (.slice A2 s.m.yng.ws.length u2):=HBR.out.cell 5
  have cR:=RResolve_any HR.out HG.out.ok a
  unfold rmV at cR
  rw[HRA.out] at cR
  dsimp only at cR
  go_wp2_with fail
  refine(cX _).mono ?_
  rintro e w1 ⟨rfl,rfl⟩
  clear cX
  go_wp2_with fail
  refine cR.mono ?_
  rintro e w1 ⟨rfl,hb2⟩
  have HB2:=lh (HB.out.trans (hb2.mono HB.out.size))
  have HO2:=lh (own_local HO.out fun k hk=>hb2.block k (HO.out.lt k hk).2)
  have hbm:=HBM.out.below hb2 HBM.out.lt
  have m0:w1.cell? ⟨bm,0,none⟩=some (.pointer (some ⟨g1,0,none⟩)):=hbm.cell 0
  have m1:w1.cell? ⟨bm,1,none⟩=some (.pointer (some ⟨g2,0,none⟩)):=hbm.cell 1
  have cM:=MResolve_any (HM.out.below hb2) b
  unfold memV at cM
  rw[HRB.out] at cM
  dsimp only at cM
  clear cR r0 r1 r2 r3 r4 r5 hb2 hbm HBM HBR HR HM HO HB HRA HRB
  go_wp2_with fail
  refine(cY _).mono ?_
  rintro e w2 ⟨rfl,rfl⟩
  clear cY
  go_wp2_with fail
  refine cM.mono ?_
  rintro e w2 ⟨rfl,hb3⟩
  have HB3:=lh (HB2.out.trans (hb3.mono HB2.out.size))
  have HO3:=lh (own_local HO2.out fun k hk=>hb3.block k (HO2.out.lt k hk).2)
  clear cM m0 m1 hb3 HB2 HO2
  go_wp2_with fail
  go_loop [20] (fun i=>∃ j:Nat,i=.int .i64 (j:Int)∧j≤K.length∧r ∉ K.take j) (fun i=>K.length - (intOf i).toNat)
  case atStart=>exact⟨0,rfl,Nat.zero_le _,by simp⟩
  case round =>
   obtain⟨j,rfl,hj,hni⟩:=hrel
   have HNI:=lh hni
   clear hni
   by_cases hlt:j < K.length
   ·have hk:K[j]?=some K[j]:=List.getElem?_eq_getElem hlt
    have hgk:=HP.out.gd _ (List.mem_of_getElem? hk)
    have hpc:=PrC_get (s.to L) hk
    have htk:K.take (j+1)=K.take j++[K[j]]:=by rw[List.take_add_one,hk];rfl
    obtain⟨bb,oo,hA,hbl,hcc⟩:=(own_sl HO3.out).2.resolve_left (by omega)
    have e0:=hcc _ _ hpc.1
    have e1:=hcc _ _ hpc.2
    have e2:w2.cell? ⟨bb,oo+j*2+1,none⟩=some (.int .i64 (s.to L K[j])):=by rw[show oo+j*2+1=oo+(j*2+1) by omega];exact e1
    have hjc:j < cl:=by omega
    have HTK:=lh htk
    subst hA
    generalize K[j]=q at *
    by_cases hq:q=r
    ·subst hq
     obtain⟨tq,htq⟩:∃ tq,tq=s.to L q:=⟨_,rfl⟩
     rw[← htq] at e1 e2 ⊢
     have HTQ:=lh htq
     clear hk hgk hpc htk hcc hbl htq
     go_wp2_with fail
     go_quiet (fail)
     go_wp2_with fail
     go_ret2
     exact⟨_,K,rfl,own_local HO3.out fun k hk=>rfl,Kp.of_below (below_drewN HB3.out _),fun k hk=>.inl hk,HP.out,[],by simp⟩
    ·have hne:s.to L q≠s.to L r:=fun e=>hq (HG.out.inj hgk HGD.out e)
     have HN:=lh hq
     have d0:(q == r)=false:=by simpa using hq
     obtain⟨tq,htq⟩:∃ tq,tq=s.to L q:=⟨_,rfl⟩
     obtain⟨tr,htr⟩:∃ tr,tr=s.to L r:=⟨_,rfl⟩
     rw[← htq] at e1 e2 hne
     rw[← htr] at hne ⊢
     have d1:(tq == tr)=false:=by simpa using hne
     have HTR:=lh htr
     clear hk hgk hpc htk hcc hbl hq hne htq htr
     go_wp2_with fail
     go_round
     case rel=>exact⟨j+1,by go_num,by omega,by rw[HTK.out];intro h;rcases List.mem_append.1 h with h | h;exact HNI.out h;exact HN.out (List.mem_singleton.1 h).symm⟩
     case measure=>simp[intOf];omega
   ·obtain rfl:j=K.length:=by omega
    have HNK:Hid (r ∉ K):=lh (by have:=HNI.out;rwa [List.take_of_length_le (Nat.le_refl _)] at this)
    obtain⟨i0,hi,hz0,hz1,hz2⟩:=info_parts i_pair10
    have HI:=lh (And.intro hi (And.intro hz0 (And.intro hz1 hz2)))
    have hsz3:=HB3.out.size
    have hb00:=HB0.out
    clear HNI hlt hi hz0 hz1 hz2
    go_wp2_with (at_builtin;refine wpList_append_own_at _ rfl (.tmp 93) (.tmp 97) 51 rfl B0 62 i0 (.agg #[.int .i64 0,.int .i64 0]) 2 16 Tryz.underlying51 HI.out.1 HI.out.2.1 HI.out.2.2.1 HI.out.2.2.2 rfl (by decide) _ K.length _ rfl (HO3.out.alloc _) ⟨w2.heap.size,0,none⟩ 1 1 [.int .i64 r,.int .i64 (s.to L r)] rfl rfl (cells_new10 w2 62 [.int .i64 r,.int .i64 (s.to L r)]) (by simp[Value.oneCell']) (by unfold maxLen;omega) (by omega) (by simp;omega) ?_;intro v14 w14 ho14 hg14 _ hl14;have HO14:=lh ho14;have HG14:=lh hg14;have HL14:=lh hl14;clear ho14 hg14 hl14)
    go_ret2
    refine⟨v14,K++[r],rfl,?_,?_,?_,⟨List.nodup_append.2 ⟨HP.out.nd,by simp,fun a ha b hb=>?_⟩,fun q hq=>?_⟩,[r],rfl⟩
    ·rw[PrC_snoc,List.length_append]
     exact HO14.out
    ·exact(Kp.of_below (HB3.out.trans (((Below.refl w2.heap.size w2).alloc (Nat.le_refl _) _).mono HB3.out.size))).trans (Kp.of_grown HG14.out fun k hk=>hk) fun k _ hk=>hk
    ·intro k hk
     rcases HL14.out with e | e
     ·rw[e] at hk;exact .inl hk
     ·rw[e] at hk
      have:=HB3.out.size
      right
      have e2:=Option.some.inj hk
      simp at e2
      omega
    ·rw[List.mem_singleton.1 hb]
     intro e
     exact HNK.out (e ▸ ha)
    ·rcases List.mem_append.1 hq with hq | hq
     ·exact HP.out.gd q hq
     ·rw[List.mem_singleton.1 hq];exact HGD.out
end
end
section
open Go.RowKit
theorem phase2_open {P:Program} {ops:Array Oper} {Q:Exit→Act→World→Prop} {m:Nat} {a:Act} {w:World} (hm:m≤ops.size) (h:wpAny P .any ops Q (ops.size - m) (Array.replicate m true++Array.replicate (ops.size - m) false) a w):Phase2 P ops Q m a w:=by
 intro L hs hall hno f hf
 have hL:L=Array.replicate m true++Array.replicate (ops.size - m) false:=by
  refine Array.ext (by simp[hs];omega) fun i h1 h2=>?_
  rw[Array.getElem_append]
  by_cases hi:i < m
  ·have:=hall i hi
   simp[Array.getD,h1] at this
   simp[hi,this]
  ·have:=hno i (by omega) (by omega)
   simp[Array.getD,h1] at this
   simp[hi,this]
 have hfn:f=ops.size - m:=by
  rw[← hf,hL]
  have e:∀ k,(List.range (m+k)).filter (fun i=>!(Array.replicate m true++Array.replicate k false).getD i true)=(List.range k).map (m+·):=fun k=>by
   rw[List.range_add,List.filter_append]
   have h1:(List.range m).filter (fun i=>!(Array.replicate m true++Array.replicate k false).getD i true)=[]:=by
    refine List.filter_eq_nil_iff.2 fun i hi=>?_
    have:=List.mem_range.1 hi
    simp[Array.getD,Array.getElem_append,this]
   have h2:((List.range k).map (m+·)).filter (fun i=>!(Array.replicate m true++Array.replicate k false).getD i true)=(List.range k).map (m+·):=by
    refine List.filter_eq_self.2 fun i hi=>?_
    obtain⟨j,hj,rfl⟩:=List.mem_map.1 hi
    have:=List.mem_range.1 hj
    simp[Array.getD,Array.getElem_append,this]
   rw[h1,h2,List.nil_append]
  have:=e (ops.size - m)
  rw[show m+(ops.size - m)=ops.size by omega] at this
  rw[this]
  simp
 rw[hfn,hL]
 exact h
theorem wpAny_go {P:Program} {ops:Array Oper} {Q:Exit→Act→World→Prop} {f:Nat} {L:Array Bool} {a:Act} {w:World} (rs:List Nat) (hr:Region.ready .any ops L=rs) (h0:rs≠[]) (h:∀ i∈rs,∃ o v,ops[i]?=some o∧o.guard=none∧(execOp a.eval o).run P w=.ok (.value v) w∧wpAny P .any ops Q f (L.setIfInBounds i true) (a.put o.dst v) w):wpAny P .any ops Q (f+1) L a w:=by
 refine⟨fun e=>absurd (hr.symm.trans e) h0,fun i hi=>?_⟩
 rw[hr] at hi
 obtain⟨o,v,ho,hg,hx,hw⟩:=h i hi
 unfold wpOp
 rw[ho]
 simp only[]
 rw[if_pos (by simp[Region.wanted,hg])]
 refine .inl ?_
 refine wp_of_made (T:=fun v' w'=>v'=v∧w'=w) (by rw[hx];exact⟨rfl,rfl⟩) fun v' w' hl=>?_
 have h1:=hl.1
 have h2:=hl.2
 rw[h1,h2]
 exact hw
theorem wpAny_fin {P:Program} {ops:Array Oper} {Q:Exit→Act→World→Prop} {L:Array Bool} {a:Act} {w:World} (hr:Region.ready .any ops L=[]) (h:Q .normal a w):wpAny P .any ops Q 0 L a w:=⟨hr,h⟩
end
end Go.Proofs.YtaijmgkjbbiboaaGreat
