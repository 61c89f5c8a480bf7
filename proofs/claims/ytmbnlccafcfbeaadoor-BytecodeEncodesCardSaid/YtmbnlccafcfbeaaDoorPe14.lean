/- Parts of the proof: PreE. -/
import Derived.Test.YtmbnlccafcfbeaaDoorPeA
import Derived.Test.YtmbnlccafcfbeaaDoorPe11
import Derived.Test.YtmbnlccafcfbeaaDoorPe12
import Derived.Test.YtmbnlccafcfbeaaDoorPe13
set_option linter.unusedVariables false
set_option linter.unusedSimpArgs false
set_option linter.unusedSectionVars false
set_option maxRecDepth 100000
namespace Go.Proofs.YtmbnlccafcfbeaaDoor
section
open Go.RowKit
def insOk (x:Ins):Prop:=I64 x.1∧I64 x.2.1∧I64 x.2.2
def mthOk (m:Mth):Prop:=m.nm.size < 18446744073709551616∧I64 m.p∧I64 m.l∧(m.code.length < 18446744073709551616∧∀ x∈m.code,insOk x)∧(m.names.length < 18446744073709551616∧∀ s∈m.names,s.size < 18446744073709551616)
def clsOk (k:Cls):Prop:=k.nm.size < 18446744073709551616∧(k.fields.length < 18446744073709551616∧∀ s∈k.fields,s.size < 18446744073709551616)∧(k.ms.length < 18446744073709551616∧∀ m∈k.ms,mthOk m)
def codeOk (cs:List Cls):Prop:=cs.length < 18446744073709551616∧∀ k∈cs,clsOk k
/-- what a program in memory is -/
def okP (cs:List Cls):Prop:=cs.length≤140737488351232∧∀ k∈cs,k.ok∧∀ m∈k.ms,m.ok
theorem CodeR.okP {w:World} {cs:List Cls} {A:Option Addr} {n c:Nat} (h:CodeR w cs A n c):okP cs:=by
 obtain⟨rfl,_,hn,hs⟩:=h
 refine⟨hn,hs.all fun k r hk=>⟨hk.1,?_⟩⟩
 obtain⟨_,F,c,M,d,_,_,_,_,hm⟩:=hk
 exact hm.all fun m r hm=>hm.1
theorem ins_ok {c:List Ins} (h:insWf c):∀ x∈c,insOk x:=fun x hx=>⟨i64_wf (h x hx).1,i64_wf (h x hx).2.1,i64_wf (h x hx).2.2⟩
theorem Mth.ok.mthOk {m:Mth} (h:m.ok):mthOk m:=⟨by have:=h.nm;omega,i64_wf h.p,i64_wf h.l,⟨by have:=h.lc;omega,ins_ok h.code⟩,⟨by have:=h.ln;omega,fun s hs=>by have:=h.names s hs;omega⟩⟩
theorem okP.codeOk {cs:List Cls} (h:okP cs):codeOk cs:=⟨by have:=h.1;omega,fun k hk=>⟨by have:=(h.2 k hk).1.nm;omega,⟨by have:=(h.2 k hk).1.lf;omega,fun s hs=>by have:=(h.2 k hk).1.fields s hs;omega⟩,⟨by have:=(h.2 k hk).1.lm;omega,fun m hm=>((h.2 k hk).2 m hm).mthOk⟩⟩⟩
theorem encL_bound {α:Type} {enc:α→List Int} {B N:Nat} {l:List α} (h:∀ x∈l,(enc x).length≤B) (hl:l.length≤N) (hN:N < 18446744073709551616):(encL enc l).length≤9+N*B:=by
 have h1:(l.flatMap enc).length≤l.length*B:=by
  clear hl
  induction l with
  | nil=>exact Nat.zero_le _
  | cons x l ih =>
   have:=h x (by simp)
   have:=ih fun y hy=>h y (by simp[hy])
   rw[List.flatMap_cons,List.length_append,List.length_cons,Nat.add_mul,Nat.one_mul]
   omega
 have h2:=encU_len (n:=(l.length:Int)) (by omega)
 have h3:l.length*B≤N*B:=Nat.mul_le_mul_right B hl
 unfold encL
 rw[List.length_append]
 omega
theorem encI_len {n:Int} (h:I64 n):(encI n).length≤9:=encU_len (zz_rg h).2
theorem encS_bound {s:ByteArray} (h:s.size < 200):(encS s).length≤209:=by
 have:=encU_len (n:=(s.size:Int)) (by omega)
 unfold encS
 rw[List.length_append,bts_len]
 omega
theorem encIns_bound {x:Ins} (h:insOk x):(encIns x).length≤27:=by
 have:=encI_len h.1
 have:=encI_len h.2.1
 have:=encI_len h.2.2
 unfold encIns
 simp only[List.length_append]
 omega
theorem encMth_bound {m:Mth} (h:mthOk m) (hf:m.few 80):(encMth m).length≤20000:=by
 have h1:=encS_bound hf.nm
 have h2:=encI_len h.2.1
 have h3:=encI_len h.2.2.1
 have h4:=encL_bound (enc:=encIns) (B:=27) (fun x hx=>encIns_bound (h.2.2.2.1.2 x hx)) hf.code (by decide)
 have h5:=encL_bound (enc:=encS) (B:=209) (fun x hx=>encS_bound (hf.each x hx)) hf.names (by decide)
 unfold encMth
 simp only[List.length_append]
 omega
theorem encCls_bound {k:Cls} (h:clsOk k) (hf:k.few 80):(encCls k).length≤1700000:=by
 have h1:=encS_bound hf.nm
 have h2:(encB k.actor).length=1:=by cases k.actor <;> rfl
 have h3:=encL_bound (enc:=encS) (B:=209) (fun x hx=>encS_bound (hf.each x hx)) hf.fields (by decide)
 have h4:=encL_bound (enc:=encMth) (B:=20000) (fun x hx=>encMth_bound (h.2.2.2 x hx) (hf.mths x hx)) hf.ms (by decide)
 unfold encCls
 simp only[List.length_append]
 omega
theorem encCode_bound {cs:List Cls} (h:codeOk cs) (hf:fewP cs 80):(encCode cs).length≤2147483648:=by
 have:=encL_bound (enc:=encCls) (B:=1700000) (fun x hx=>encCls_bound (h.2 x hx) (hf.2 x hx)) hf.1 (by decide)
 unfold encCode
 omega
theorem encL_b8 {α:Type} {enc:α→List Int} {l:List α} (h:∀ x∈l,B8 (enc x)) (hl:l.length < 18446744073709551616):B8 (encL enc l):=by
 refine(encU_b8 (by omega)).app ?_
 clear hl
 induction l with
 | nil=>exact B8.nil
 | cons x l ih=>rw[List.flatMap_cons];exact(h x (by simp)).app (ih fun y hy=>h y (by simp[hy]))
theorem encI_b8 {n:Int} (h:I64 n):B8 (encI n):=encU_b8 (zz_rg h).2
theorem encS_b8 {s:ByteArray} (h:s.size < 18446744073709551616):B8 (encS s):=(encU_b8 (by omega)).app (bts_b8 s)
theorem encB_b8 (x:Bool):B8 (encB x):=by cases x <;> exact B8.one (by decide) (by decide)
theorem encMth_b8 {m:Mth} (h:mthOk m):B8 (encMth m) :=
 ((((encS_b8 h.1).app (encI_b8 h.2.1)).app (encI_b8 h.2.2.1)).app (encL_b8 (fun x hx=>((encI_b8 (h.2.2.2.1.2 x hx).1).app (encI_b8 (h.2.2.2.1.2 x hx).2.1)).app (encI_b8 (h.2.2.2.1.2 x hx).2.2)) h.2.2.2.1.1)).app (encL_b8 (fun x hx=>encS_b8 (h.2.2.2.2.2 x hx)) h.2.2.2.2.1)
theorem encCls_b8 {k:Cls} (h:clsOk k):B8 (encCls k) :=
 (((encS_b8 h.1).app (encB_b8 _)).app (encL_b8 (fun x hx=>encS_b8 (h.2.1.2 x hx)) h.2.1.1)).app (encL_b8 (fun x hx=>encMth_b8 (h.2.2.2 x hx)) h.2.2.1)
theorem encCode_b8 {cs:List Cls} (h:codeOk cs):B8 (encCode cs):=encL_b8 (fun x hx=>encCls_b8 (h.2 x hx)) h.1
def withinP (cs:List Cls):Prop:=cs.length≤60∧∀ k∈cs,k.fields.length≤30∧k.ms.length≤30
theorem codeP.within {cs:List Cls} (h:codeP cs):withinP cs:=⟨by have:=h.1;omega,fun k hk=>⟨by have:=(h.2 k hk).2.2.1.1;omega,by have:=(h.2 k hk).2.2.2.1;omega⟩⟩
theorem few_mthP {m:Mth} (h:m.ok) (hf:m.few 80):mthP m :=
 ⟨by have:=hf.nm;omega,i64_wf h.p,i64_wf h.l,⟨by have:=hf.code;omega,ins_ok h.code⟩,⟨by have:=hf.names;omega,fun s hs=>by have:=hf.each s hs;omega⟩⟩
theorem withinP.code {cs:List Cls} (h:withinP cs) (ho:okP cs) (hf:fewP cs 80):codeP cs :=
 ⟨by have:=h.1;omega,fun k hk=>⟨by have:=(hf.2 k hk).nm;omega,trivial,⟨by have:=(h.2 k hk).1;omega,fun s hs=>by have:=(hf.2 k hk).each s hs;omega⟩,⟨by have:=(h.2 k hk).2;omega,fun m hm=>few_mthP ((ho.2 k hk).2 m hm) ((hf.2 k hk).mths m hm)⟩⟩⟩
theorem few_cls0 {cs:List Cls} (ho:okP cs) (hf:fewP cs 80):∀ k∈cs,clsP0 k:=fun k hk =>
 ⟨by have:=(hf.2 k hk).nm;omega,fun s hs=>by have:=(hf.2 k hk).each s hs;omega,by have:=(hf.2 k hk).fields;omega,by have:=(hf.2 k hk).ms;omega,fun m hm=>few_mthP ((ho.2 k hk).2 m hm) ((hf.2 k hk).mths m hm)⟩
theorem dec_yes {cs:List Cls} (h:codeP cs):decCode ⟨encCode cs,0⟩=(cs,⟨[],0⟩):=by
 have:=codCode.fw cs [] h
 rwa [List.append_nil] at this
theorem dec_no {cs:List Cls} (ho:okP cs) (hf:fewP cs 80) (hn:¬ withinP cs):(decCode ⟨encCode cs,0⟩).2=Rd.bad 8:=by
 have:=code8 cs [] (few_cls0 ho hf) (by have:=ho.1;omega) fun h=>hn h.within
 rwa [List.append_nil] at this
end
end Go.Proofs.YtmbnlccafcfbeaaDoor
