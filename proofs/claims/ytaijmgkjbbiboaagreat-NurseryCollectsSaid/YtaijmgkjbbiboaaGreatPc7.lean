/- Parts of the proof: NurP. -/
import Derived.Test.YtaijmgkjbbiboaaGreatPcA
import Derived.Test.YtaijmgkjbbiboaaGreatPc6
set_option linter.unusedVariables false
set_option linter.unusedSimpArgs false
set_option linter.unusedSectionVars false
set_option maxRecDepth 100000
namespace Go.Proofs.YtaijmgkjbbiboaaGreat
section
/-- where a young reference leads: nowhere (none), or the word is no young reference (some none) -/
def Mm.ld (m:Mm) (x:Int):Option (Option Int):=if ygW x=true then m.rfr x else some none
/-- a word, looked at: the list and whether a dangling reference was met -/
def Mm.ord1 (m:Mm) (p:List Int × Bool) (x:Int):List Int × Bool:=match m.ld x with
 | none=>(p.1,true)
 | some none=>p
 | some (some a)=>if 16777216≤a∧p.1.contains a=false then (p.1++[a],p.2) else p
/-- the words of the slots of an object -/
def Mm.slW (m:Mm) (a:Int):List Int:=(List.range (slotN (m.hdr a).2).toNat).map fun(i:Nat)=>(m.at_ (a+2+(i:Int))).getD 0
/-- the slots of the listed objects, from an index on -/
def Mm.ordN (m:Mm):Nat→Nat→List Int × Bool→List Int × Bool
 | 0,_,p=>p
 | f+1,i,p=>match p.1[i]? with
  | none=>p
  | some a=>m.ordN f (i+1) ((m.slW a).foldl m.ord1 p)
def Mm.remW (m:Mm) (cs:List Int):List Int:=(m.crossing (cardIn cs)).map fun a=>(m.at_ a).getD 0
/-- the order of copying -/
def Mm.order (m:Mm) (cs roots:List Int):List Int × Bool:=m.ordN (m.yng.ws.length+1) 0 ((m.remW cs).foldl m.ord1 (roots.foldl m.ord1 ([],false)))
/-- the places of copies from an address on -/
def Mm.plc (m:Mm):Int→List Int→List Int
 | _,[]=>[]
 | t,a::l=>t::m.plc (t+wH (m.hdr a).2) l
/-- the words that copies take -/
def Mm.need (m:Mm):List Int→Int
 | []=>0
 | a::l=>wH (m.hdr a).2+m.need l
/-- the new address of an object -/
def newAt:List Int→List Int→Int→Int
 | b::l,t::ts,a=>if b=a then t else newAt l ts a
 | _,_,a=>a
/-- the word that replaces a word -/
def Mm.mvd (m:Mm) (l ts:List Int) (x:Int):Int:=match m.ld x with
 | some (some a)=>frW (newAt l ts a)
 | _=>x
/-- the words of a copy -/
def Mm.cpy (m:Mm) (l ts:List Int) (a:Int):List Int:=(List.range (wH (m.hdr a).2).toNat).map fun(k:Nat) =>
 if 2≤k∧(k:Int) < 2+slotN (m.hdr a).2 then m.mvd l ts ((m.at_ (a+(k:Int))).getD 0) else (m.at_ (a+(k:Int))).getD 0
/-- the old words, with slots replaced -/
def Mm.upd (m:Mm) (l ts:List Int):List Int→List Int→List Int
 | [],ws=>ws
 | a::at_,ws=>m.upd l ts at_ (ws.set (a - m.old.base).toNat (m.mvd l ts ((ws[(a - m.old.base).toNat]?).getD 0)))
/-- what a collection answers -/
structure Col where
 e:Int
 m:Mm
 cs:List Int
 out:List Int
 n:Int
def Mm.collect (m:Mm) (chk:Int) (cs roots:List Int):Col :=
 if (m.order cs roots).2=true ∨ chk≠0 then ⟨11,m,cs,[],0⟩
 else if m.old.top+m.need (m.order cs roots).1 > m.old.limit then ⟨8,m,cs,[],0⟩
 else ⟨0,⟨{ m.old with ws:=m.upd (m.order cs roots).1 (m.plc m.old.top (m.order cs roots).1) (m.crossing (cardIn cs)) m.old.ws++(m.order cs roots).1.flatMap (m.cpy (m.order cs roots).1 (m.plc m.old.top (m.order cs roots).1)) },{ m.yng with ws:=[] }⟩,[],
  roots.map (m.mvd (m.order cs roots).1 (m.plc m.old.top (m.order cs roots).1)),(m.order cs roots).1.length⟩
structure Mm.OrdI (m:Mm) (l:List Int):Prop where
 nd:l.Nodup
 ok:∀ a∈l,(m.hdr a).1=0∧(m.hdr a).2.k≠4∧16777216≤a
theorem Mm.OrdI.nil (m:Mm):m.OrdI []:=⟨List.nodup_nil,fun a h=>by cases h⟩
theorem Mm.ld_rfr {m:Mm} {x:Int} {a:Int} (h:m.ld x=some (some a)):m.rfr x=some (some a)∧ygW x=true:=by
 unfold Mm.ld at h
 split at h
 ·rename_i h1;exact⟨h,h1⟩
 ·cases h
theorem Mm.ld_hdr {m:Mm} {x a:Int} (h:m.ld x=some (some a)):(m.hdr a).1=0∧(m.hdr a).2.k≠4:=Mm.rfr_hdr (Mm.ld_rfr h).1
theorem Mm.ld_no {m:Mm} {x:Int} (h:m.ld x=some none):ygW x=false:=by
 unfold Mm.ld at h
 split at h
 ·rename_i h1
  unfold Mm.rfr at h
  unfold ygW at h1
  cases ha:adr x with
  | none=>rw[ha] at h1;cases h1
  | some a =>
   rw[ha] at h
   dsimp only at h
   split at h <;> cases h
 ·rename_i h1;simpa using h1
theorem Mm.ord1_I {m:Mm} {p:List Int × Bool} (h:m.OrdI p.1) (x:Int):m.OrdI (m.ord1 p x).1:=by
 unfold Mm.ord1
 split
 ·exact h
 ·exact h
 ·rename_i a ha
  split
  ·rename_i h1
   refine⟨nodup_snoc h.nd (by simpa using h1.2),fun b hb=>?_⟩
   rcases List.mem_append.1 hb with hb | hb
   ·exact h.ok b hb
   ·rw[List.mem_singleton.1 hb]
    exact⟨(Mm.ld_hdr ha).1,(Mm.ld_hdr ha).2,h1.1⟩
  ·exact h
theorem Mm.ordW_I {m:Mm}:∀ (ws:List Int) {p:List Int × Bool},m.OrdI p.1→m.OrdI (ws.foldl m.ord1 p).1
 | [],p,h=>h
 | x::ws,p,h=>Mm.ordW_I ws (Mm.ord1_I h x)
theorem Mm.ordN_I {m:Mm}:∀ (f i:Nat) {p:List Int × Bool},m.OrdI p.1→m.OrdI (m.ordN f i p).1
 | 0,i,p,h=>h
 | f+1,i,p,h=>by
  unfold Mm.ordN
  split
  ·exact h
  ·exact Mm.ordN_I f (i+1) (Mm.ordW_I _ h)
theorem Mm.order_I (m:Mm) (cs roots:List Int):m.OrdI (m.order cs roots).1:=Mm.ordN_I _ _ (Mm.ordW_I _ (Mm.ordW_I _ (Mm.OrdI.nil m)))
theorem Mm.OrdI.yng {m:Mm} (ok:m.Ok) {l:List Int} (h:m.OrdI l):∀ a∈l,m.yng.has a=true:=fun a ha=>by
 have h1:=Mm.hdr_has (h.ok a ha).1
 unfold Mm.has Mm.sp at h1
 split at h1
 ·have:=ok.old_lt h1;have:=(h.ok a ha).2.2;omega
 ·exact h1
theorem Mm.OrdI.len {m:Mm} (ok:m.Ok) {l:List Int} (h:m.OrdI l):l.length≤m.yng.ws.length:=by
 have:=nodup_len l ((List.range m.yng.ws.length).map fun(i:Nat)=>m.yng.base+(i:Int)) h.nd fun y hy=>by
  have h1:=Spc.has_iff.1 (h.yng ok y hy)
  exact List.mem_map.2 ⟨(y - m.yng.base).toNat,List.mem_range.2 (by omega),by omega⟩
 simpa using this
/-- the loop over the list, from an index on -/
def Mm.ordF (m:Mm) (i:Nat) (p:List Int × Bool):List Int × Bool:=m.ordN (m.yng.ws.length+1 - i) i p
theorem Mm.ordF_end {m:Mm} {i:Nat} {p:List Int × Bool} (h:p.1.length≤i):m.ordF i p=p:=by
 unfold Mm.ordF
 cases m.yng.ws.length+1 - i with
 | zero=>rfl
 | succ f=>unfold Mm.ordN;rw[List.getElem?_eq_none h]
theorem Mm.ordF_step {m:Mm} (ok:m.Ok) {i:Nat} {p:List Int × Bool} (h:m.OrdI p.1) {a:Int} (ha:p.1[i]?=some a):m.ordF i p=m.ordF (i+1) ((m.slW a).foldl m.ord1 p):=by
 have h1:=(List.getElem?_eq_some_iff.1 ha).1
 have h2:=h.len ok
 unfold Mm.ordF
 rw[show m.yng.ws.length+1 - i=(m.yng.ws.length+1 - (i+1))+1 by omega]
 conv=>lhs;unfold Mm.ordN
 rw[ha]
theorem Mm.order_F (m:Mm) (cs roots:List Int):m.order cs roots=m.ordF 0 ((m.remW cs).foldl m.ord1 (roots.foldl m.ord1 ([],false))):=rfl
theorem newAt_no:∀ {l ts:List Int} {a:Int},a ∉ l→newAt l ts a=a
 | [],ts,a,h=>by unfold newAt;rfl
 | b::l,[],a,h=>by unfold newAt;rfl
 | b::l,t::ts,a,h=>by
  unfold newAt
  rw[if_neg (show b≠a from fun e=>h (e ▸ List.mem_cons_self ..))]
  exact newAt_no fun h1=>h (List.mem_cons_of_mem _ h1)
theorem newAt_get:∀ {l ts:List Int} {i:Nat} {a t:Int},l.Nodup→l[i]?=some a→ts[i]?=some t→newAt l ts a=t
 | [],ts,i,a,t,hn,h,h'=>by simp at h
 | b::l,[],i,a,t,hn,h,h'=>by simp at h'
 | b::l,u::ts,0,a,t,hn,h,h'=>by
  simp at h h'
  subst h h'
  unfold newAt
  rw[if_pos rfl]
 | b::l,u::ts,i+1,a,t,hn,h,h'=>by
  simp only[List.getElem?_cons_succ] at h h'
  have hn':=List.nodup_cons.1 hn
  unfold newAt
  rw[if_neg (show b≠a from fun e=>hn'.1 (e ▸ List.mem_of_getElem? h))]
  exact newAt_get hn'.2 h h'
theorem Mm.plc_len (m:Mm):∀ (l:List Int) (t:Int),(m.plc t l).length=l.length
 | [],t=>rfl
 | a::l,t=>by unfold Mm.plc;rw[List.length_cons,List.length_cons,Mm.plc_len m l]
theorem Mm.plc_get (m:Mm):∀ {l:List Int} {t:Int} {i:Nat},i < l.length→(m.plc t l)[i]?=some (t+m.need (l.take i))
 | [],t,i,h=>by simp at h
 | a::l,t,0,h=>by unfold Mm.plc Mm.need;simp
 | a::l,t,i+1,h=>by
  unfold Mm.plc
  rw[List.getElem?_cons_succ,Mm.plc_get m (by simpa using h),List.take_succ_cons]
  conv=>rhs;unfold Mm.need
  congr 1
  omega
theorem Mm.plc_at (m:Mm) {l:List Int} (hn:l.Nodup) {t:Int} {i:Nat} {a:Int} (h:l[i]?=some a):newAt l (m.plc t l) a=t+m.need (l.take i) :=
 newAt_get hn h (m.plc_get (List.getElem?_eq_some_iff.1 h).1)
theorem Mm.need_app (m:Mm):∀ l l':List Int,m.need (l++l')=m.need l+m.need l'
 | [],l'=>by simp[Mm.need]
 | a::l,l'=>by simp only[List.cons_append,Mm.need];rw[Mm.need_app m l l'];omega
theorem Mm.need_nn (m:Mm):∀ l:List Int,0≤m.need l
 | []=>by simp[Mm.need]
 | a::l=>by unfold Mm.need;have:=wH_bound (m.hdr a).2;have:=Mm.need_nn m l;omega
theorem Mm.need_step (m:Mm) {l:List Int} {i:Nat} {a:Int} (h:l[i]?=some a):m.need (l.take (i+1))=m.need (l.take i)+wH (m.hdr a).2:=by
 rw[List.take_add_one,h,Mm.need_app]
 simp[Mm.need]
theorem Mm.need_le (m:Mm) {l:List Int} {i:Nat} {a:Int} (h:l[i]?=some a):m.need (l.take i)+wH (m.hdr a).2≤m.need l:=by
 have h1:=m.need_app (l.take (i+1)) (l.drop (i+1))
 rw[List.take_append_drop,m.need_step h] at h1
 have:=m.need_nn (l.drop (i+1))
 omega
theorem Mm.resN_mono (m:Mm):∀ (f f':Nat) {a b:Int},m.resN f a=some b→f≤f'→m.resN f' a=some b
 | 0,f',a,b,h,_=>by cases h
 | f+1,0,a,b,h,hl=>by omega
 | f+1,f'+1,a,b,h,hl=>by
  unfold Mm.resN at h ⊢
  split at h
  ·cases h
  ·exact h
  ·exact Mm.resN_mono m f f' h (by omega)
theorem Mm.resN_det {m:Mm} {f f':Nat} {a b c:Int} (h:m.resN f a=some b) (h':m.resN f' a=some c):b=c:=by
 have h1:=m.resN_mono f (max f f') h (Nat.le_max_left ..)
 have h2:=m.resN_mono f' (max f f') h' (Nat.le_max_right ..)
 rw[h1] at h2
 exact Option.some.inj h2
theorem Mm.resolve_ok {m:Mm} {a:Int} (h:(m.resolve a).2=0):m.has a=true∧m.resN (m.size+1) a=some (m.resolve a).1:=by
 unfold Mm.resolve at h ⊢
 split at h
 ·cases h
 ·rename_i h0
  rw[if_neg h0]
  split at h
  ·rename_i b hb
   rw[hb]
   exact⟨by simpa using h0,rfl⟩
  ·cases h
theorem Mm.resolve_of {m:Mm} {a b:Int} (h:m.has a=true) (hr:m.resN (m.size+1) a=some b):m.resolve a=(b,0):=by
 unfold Mm.resolve
 rw[if_neg (by rw[h];simp),hr]
theorem Mm.nxt_hdr {m:Mm} {a:Int} {o:Option Int} (h:m.nxt a=some o):(m.hdr a).1=0:=by
 unfold Mm.nxt at h
 split at h
 ·cases h
 ·omega
theorem adr_frW {a:Int} (h0:0≤a) (h1:a≤4294967295):adr (frW a)=some a:=by
 unfold frW inA
 rw[if_pos (by simpa using ⟨h0,h1⟩)]
 exact adr_adW h0 h1
/-- an object that a word leads to is listed, if it is young -/
def Lst (l:List Int) (r:Int):Prop:=16777216≤r→r∈l
structure Mid (m0:Mm) (l ts:List Int) (m:Mm):Prop where
 ok:m.Ok
 hd:∀ b,(m0.hdr b).1=0→m.hdr b=m0.hdr b
 fw:∀ b,(m0.hdr b).1=0→(m0.hdr b).2.k=4→m.at_ (b+2)=m0.at_ (b+2) ∨ ∃ x r,m0.at_ (b+2)=some x∧m0.ld x=some (some r)∧Lst l r∧m.at_ (b+2)=some (frW (newAt l ts r))
 nw:∀ r∈l,(m.hdr (newAt l ts r)).1=0∧(m.hdr (newAt l ts r)).2.k≠4∧0≤newAt l ts r∧newAt l ts r < 16777216
 sz:m0.size≤m.size
theorem Mm.nxt_self {m:Mm} {a:Int} (h:(m.hdr a).1=0) (h4:(m.hdr a).2.k≠4):m.nxt a=some none:=by
 unfold Mm.nxt
 rw[if_neg (by simp[h]),if_pos h4]
theorem Mm.nxt_fw2 {m:Mm} {a c:Int} (h:m.nxt a=some (some c)):(m.hdr a).1=0∧(m.hdr a).2.k=4∧adr ((m.at_ (a+2)).getD 0)=some c:=by
 unfold Mm.nxt at h
 split at h
 ·cases h
 ·rename_i h0
  split at h
  ·cases h
  ·rename_i h4
   split at h
   ·rename_i b hb
    cases h
    exact⟨by omega,by omega,hb⟩
   ·cases h
theorem Mm.nxt_to {m:Mm} {a c:Int} (h0:(m.hdr a).1=0) (h4:(m.hdr a).2.k=4) (h:adr ((m.at_ (a+2)).getD 0)=some c):m.nxt a=some (some c):=by
 unfold Mm.nxt
 rw[if_neg (by simp[h0]),if_neg (by simp[h4]),h]
theorem hdr_rg {m:Mm} (ok:m.Ok) {a:Int} (h:(m.hdr a).1=0):0≤a∧a≤4294967295:=by
 have h1:=Mm.hdr_has h
 unfold Mm.has Mm.sp at h1
 split at h1
 ·have:=ok.old_lt h1;omega
 ·have:=ok.yng_ge h1;omega
theorem Mid.res {m0 m:Mm} {l ts:List Int} (ok:m0.Ok) (hl:m0.OrdI l) (h:Mid m0 l ts m):∀ (f:Nat) {b r:Int},m0.resN f b=some r→Lst l r→∃ r',m.resN f b=some r'∧(r'=r ∨ r'=newAt l ts r)
 | 0,b,r,hr,_=>by cases hr
 | f+1,b,r,hr,hlr=>by
  unfold Mm.resN at hr
  split at hr
  ·cases hr
  ·rename_i hn
   cases hr
   obtain⟨h0,h4⟩:=Mm.nxt_none hn
   refine⟨b,?_,.inl rfl⟩
   unfold Mm.resN
   rw[Mm.nxt_self (by rw[h.hd b h0];exact h0) (by rw[h.hd b h0];exact h4)]
  ·rename_i c hn
   obtain⟨h0,h4,hc⟩:=Mm.nxt_fw2 hn
   have e:=h.hd b h0
   rcases h.fw b h0 h4 with e2 | ⟨x,r2,hx,hld,hl2,e2⟩
   ·obtain⟨r',h1,h2⟩:=Mid.res ok hl h f hr hlr
    refine⟨r',?_,h2⟩
    unfold Mm.resN
    rw[Mm.nxt_to (by rw[e];exact h0) (by rw[e];exact h4) (by rw[e2];exact hc)]
    exact h1
   ·have hrx:=(Mm.ld_rfr hld).1
    unfold Mm.rfr at hrx
    rw[hx] at hc
    simp only[Option.getD_some] at hc
    rw[hc] at hrx
    dsimp only at hrx
    split at hrx
    ·rename_i h5
     have h6:(m0.resolve c).1=r2:=Option.some.inj (Option.some.inj hrx)
     have h7:=(Mm.resolve_ok h5).2
     rw[h6] at h7
     obtain rfl:=Mm.resN_det hr h7
     have hrr:=Mm.nxt_none (m0.resN_nxt _ _ _ hr)
     have h8:(m.hdr (newAt l ts r)).1=0∧(m.hdr (newAt l ts r)).2.k≠4:=by
      by_cases hm:r∈l
      ·exact⟨(h.nw r hm).1,(h.nw r hm).2.1⟩
      ·rw[newAt_no hm,h.hd r hrr.1]
       exact hrr
     have h9:=hdr_rg h.ok h8.1
     refine⟨newAt l ts r,?_,.inr rfl⟩
     unfold Mm.resN
     rw[Mm.nxt_to (c:=newAt l ts r) (by rw[e];exact h0) (by rw[e];exact h4) (by rw[e2];exact adr_frW h9.1 h9.2)]
     cases f with
     | zero=>cases hr
     | succ f =>
      show m.resN (f+1) (newAt l ts r)=_
      unfold Mm.resN
      rw[Mm.nxt_self h8.1 h8.2]
    ·cases hrx
theorem Mid.resolve {m0 m:Mm} {l ts:List Int} (ok:m0.Ok) (hl:m0.OrdI l) (h:Mid m0 l ts m) {b:Int} (hb:(m0.resolve b).2=0) (hr:Lst l (m0.resolve b).1):(m.resolve b).2=0∧((m.resolve b).1=(m0.resolve b).1 ∨ (m.resolve b).1=newAt l ts (m0.resolve b).1):=by
 obtain⟨h1,h2⟩:=Mm.resolve_ok hb
 obtain⟨r',h3,h4⟩:=h.res ok hl _ h2 hr
 have h5:(m0.hdr b).1=0:=by
  unfold Mm.resN at h2
  split at h2
  ·cases h2
  ·rename_i hn;exact Mm.nxt_hdr hn
  ·rename_i hn;exact Mm.nxt_hdr hn
 have h6:=Mm.resolve_of (Mm.hdr_has (by rw[h.hd b h5];exact h5)) (m.resN_mono _ (m.size+1) h3 (by have:=h.sz;omega))
 rw[h6]
 exact⟨rfl,h4⟩
/-- words are replaced alike at every time of a collection -/
theorem Mid.mvd {m0 m:Mm} {l ts:List Int} (ok:m0.Ok) (hl:m0.OrdI l) (h:Mid m0 l ts m) {x:Int} (hx:m0.ld x≠none) (hr:∀ r,m0.ld x=some (some r)→Lst l r):m.mvd l ts x=m0.mvd l ts x:=by
 unfold Mm.mvd
 cases h0:m0.ld x with
 | none=>exact absurd h0 hx
 | some o =>
  cases o with
  | none =>
   have:m.ld x=some none:=by unfold Mm.ld;rw[if_neg (by rw[Mm.ld_no h0];simp)]
   rw[this]
  | some r =>
   have h1:=hr r h0
   obtain⟨h2,hy⟩:=Mm.ld_rfr h0
   unfold Mm.rfr at h2
   cases ha:adr x with
   | none=>rw[ha] at h2;cases h2
   | some b =>
    rw[ha] at h2
    dsimp only at h2
    split at h2
    ·rename_i h3
     have h4:(m0.resolve b).1=r:=Option.some.inj (Option.some.inj h2)
     obtain⟨h5,h6⟩:=h.resolve ok hl h3 (by rw[h4];exact h1)
     rw[h4] at h6
     have h7:m.ld x=some (some (m.resolve b).1):=by
      unfold Mm.ld
      rw[if_pos hy]
      unfold Mm.rfr
      rw[ha]
      dsimp only
      rw[if_pos h5]
     rw[h7]
     dsimp only
     rcases h6 with h6 | h6
     ·rw[h6]
     ·rw[h6]
      by_cases hm:r∈l
      ·have:=h.nw r hm
       rw[newAt_no (a:=newAt l ts r) fun e=>by have:=(hl.ok _ e).2.2;omega]
      ·rw[newAt_no hm,newAt_no hm]
    ·cases h2
def Mm.mid (m0:Mm) (U Z:List Int):Mm:=⟨{ m0.old with ws:=U++Z },m0.yng⟩
structure LaidZ (m0:Mm) (l Z:List Int):Prop where
 len:(Z.length:Int)=m0.need l
 u:∀ x∈Z,U64 x
 hd:∀ (i:Nat) (a:Int),l[i]?=some a→Z[(m0.need (l.take i)).toNat]?=some ((m0.at_ a).getD 0)∧Z[(m0.need (l.take i)).toNat+1]?=some ((m0.at_ (a+1)).getD 0)
structure UpdI (m0:Mm) (l ts U:List Int):Prop where
 len:U.length=m0.old.ws.length
 u:∀ x∈U,U64 x
 ch:∀ i:Nat,U[i]?=m0.old.ws[i]? ∨ ∃ x r,m0.old.ws[i]?=some x∧ygW x=true∧m0.ld x=some (some r)∧Lst l r∧U[i]?=some (frW (newAt l ts r))
theorem UpdI.refl {m0:Mm} (ok:m0.Ok) (l ts:List Int):UpdI m0 l ts m0.old.ws:=⟨rfl,ok.o.u,fun i=>.inl rfl⟩
theorem ygW_rg {x:Int} (hx:U64 x) (h:ygW x=true):x % 4=2∧x < 281474976710656:=by
 unfold ygW at h
 cases ha:adr x with
 | none=>rw[ha] at h;cases h
 | some a =>
  unfold adr at ha
  split at ha
  ·rename_i h1;unfold U64 at hx;omega
  ·cases ha
theorem dH_mod {x:Int} {h:Hdr} (hd:dH x=some h):x % 4=3:=by
 have:=(dH_some hd).2
 unfold eH at this
 omega
theorem dI_big {v:Int} (h:dI v≠Id.zero):281474976710656≤v:=by
 have h1:=dI_ne h
 unfold dI at h1 h
 split at h1
 ·rename_i h2
  have:=(vI_iff _).1 h2
  dsimp only at this
  omega
 ·rename_i h2
  rw[if_neg h2] at h
  exact absurd rfl h
theorem Spc.at_zero {s:Spc} (hb:s.base=0) {a:Int} {x:Int} (h:s.at_ a=some x):0≤a∧s.ws[a.toNat]?=some x:=by
 have h1:=Spc.has_iff.1 (Spc.at_has h)
 unfold Spc.at_ at h
 rw[if_pos (Spc.at_has h),hb] at h
 rw[hb] at h1
 rw[Int.sub_zero] at h
 exact⟨by omega,h⟩
theorem Spc.at_of {s:Spc} (hb:s.base=0) {a:Int} {x:Int} (h0:0≤a) (h:s.ws[a.toNat]?=some x):s.at_ a=some x:=by
 have h1:=(List.getElem?_eq_some_iff.1 h).1
 unfold Spc.at_
 rw[if_pos (Spc.has_iff.2 ⟨by omega,by omega⟩),hb,Int.sub_zero]
 exact h
section
variable {m0:Mm} {l U Z:List Int}
/-- an old word in the middle -/
theorem mid_old (ok:m0.Ok) (hu:UpdI m0 l (m0.plc m0.old.top l) U) {a x:Int} (h:m0.old.at_ a=some x):(m0.mid U Z).old.at_ a=some x ∨ (ygW x=true∧∃ r,m0.ld x=some (some r)∧Lst l r∧(m0.mid U Z).old.at_ a=some (frW (newAt l (m0.plc m0.old.top l) r))):=by
 obtain⟨h0,h1⟩:=Spc.at_zero ok.ob h
 have h2:=(List.getElem?_eq_some_iff.1 h1).1
 have hb:(m0.mid U Z).old.base=0:=ok.ob
 have e:(m0.mid U Z).old.ws[a.toNat]?=U[a.toNat]?:=List.getElem?_append_left (by rw[hu.len];exact h2)
 rcases hu.ch a.toNat with h3 | ⟨y,r,h3,h4,h5,h6,h7⟩
 ·exact .inl (Spc.at_of hb h0 (by rw[e,h3];exact h1))
 ·rw[h1] at h3
  cases h3
  exact .inr ⟨h4,r,h5,h6,Spc.at_of hb h0 (by rw[e];exact h7)⟩
theorem mid_new (ok:m0.Ok) (hu:U.length=m0.old.ws.length) {k:Nat} {x:Int} (h:Z[k]?=some x):(m0.mid U Z).old.at_ (m0.old.top+(k:Int))=some x:=by
 have hb:(m0.mid U Z).old.base=0:=ok.ob
 have ht:m0.old.top=(m0.old.ws.length:Int):=by unfold Spc.top;rw[ok.ob];omega
 refine Spc.at_of hb (by omega) ?_
 show(U++Z)[_]?=_
 rw[List.getElem?_append_right (by omega)]
 rw[← h]
 congr 1
 omega
theorem mid_len (hu:U.length=m0.old.ws.length) (hz:(Z.length:Int)=m0.need l):((m0.mid U Z).old.ws.length:Int)=m0.old.ws.length+m0.need l:=by
 show((U++Z).length:Int)=_
 rw[List.length_append]
 omega
theorem mid_sp (ok:m0.Ok) (hu:U.length=m0.old.ws.length) (hz:(Z.length:Int)=m0.need l) (hf:m0.old.top+m0.need l≤m0.old.limit) (a:Int):(m0.old.has a=true→(m0.mid U Z).sp a=(m0.mid U Z).old∧m0.sp a=m0.old)∧(m0.yng.has a=true→(m0.mid U Z).sp a=m0.yng∧m0.sp a=m0.yng):=by
 have h1:=mid_len (m0:=m0) hu hz
 have hn:=m0.need_nn l
 have hb:(m0.mid U Z).old.base=0:=ok.ob
 refine⟨fun h=>?_,fun h=>?_⟩
 ·have h2:=Spc.has_iff.1 h
  rw[ok.ob] at h2
  unfold Mm.sp
  rw[if_pos h,if_pos (Spc.has_iff.2 ⟨by omega,by omega⟩)]
  exact⟨rfl,rfl⟩
 ·have h2:=ok.yng_ge h
  have h3:=ok.ol
  unfold Spc.top at hf
  rw[ok.ob] at hf
  have n1:¬ m0.old.has a=true:=fun e=>by have:=ok.old_lt e;omega
  have n2:¬ (m0.mid U Z).old.has a=true:=fun e=>by
   have:=Spc.has_iff.1 e
   omega
  unfold Mm.sp
  rw[if_neg n1,if_neg n2]
  exact⟨rfl,rfl⟩
theorem mid_Ok (ok:m0.Ok) (hu:UpdI m0 l (m0.plc m0.old.top l) U) (hz:LaidZ m0 l Z) (hf:m0.old.top+m0.need l≤m0.old.limit):(m0.mid U Z).Ok:=by
 refine⟨⟨fun x hx=>?_,ok.o.b0,?_,ok.o.l0⟩,ok.y,ok.ob,ok.ol,ok.yb⟩
 ·rcases List.mem_append.1 hx with hx | hx
  ·exact hu.u x hx
  ·exact hz.u x hx
 ·have h1:=mid_len (m0:=m0) hu.len hz.len
  show m0.old.base+_≤m0.old.limit
  unfold Spc.top at hf
  omega
/-- headers that stood stand -/
theorem mid_hd (ok:m0.Ok) (hu:UpdI m0 l (m0.plc m0.old.top l) U) (hz:LaidZ m0 l Z) (hf:m0.old.top+m0.need l≤m0.old.limit) {b:Int} (h:(m0.hdr b).1=0):(m0.mid U Z).hdr b=m0.hdr b:=by
 have h1:=Mm.hdr_has h
 unfold Mm.has Mm.sp at h1
 split at h1
 ·rename_i ho
  obtain⟨e1,e2⟩:=(mid_sp ok hu.len hz.len hf b).1 ho
  unfold Mm.hdr at h ⊢
  rw[e1,e2]
  rw[e2] at h
  obtain⟨x,v,hx,hd,hv,hi,hw⟩:=Spc.hdr_ok h
  have f1:(m0.mid U Z).old.at_ b=some x:=by
   rcases mid_old (Z:=Z) ok hu hx with h3 | ⟨h3,_⟩
   ·exact h3
   ·have:=ygW_rg (ok.o.at_u hx) h3;have:=dH_mod hd;omega
  have f2:(m0.mid U Z).old.at_ (b+1)=some v:=by
   rcases mid_old (Z:=Z) ok hu hv with h3 | ⟨h3,_⟩
   ·exact h3
   ·have:=ygW_rg (ok.o.at_u hv) h3;have:=dI_big hi;omega
  have f3:(m0.mid U Z).old.has (b+wH (m0.old.hdr b).2 - 1)=true:=by
   have h4:=Spc.has_iff.1 hw
   have h5:=mid_len (m0:=m0) hu.len hz.len
   have h6:=m0.need_nn l
   exact Spc.has_iff.2 ⟨h4.1,by show _ < m0.old.base+_;omega⟩
  have e3:m0.old.hdr b=(0,(m0.old.hdr b).2):=by rw[← h]
  rw[e3]
  conv=>lhs;unfold Spc.hdr
  rw[f1]
  dsimp only
  rw[hd,f2]
  dsimp only
  rw[if_neg (by rw[f3];simp[hi])]
 ·have ho:m0.yng.has b=true:=h1
  obtain⟨e1,e2⟩:=(mid_sp ok hu.len hz.len hf b).2 ho
  unfold Mm.hdr
  rw[e1,e2]
theorem mid_nw (ok:m0.Ok) (hl:m0.OrdI l) (hu:UpdI m0 l (m0.plc m0.old.top l) U) (hz:LaidZ m0 l Z) (hf:m0.old.top+m0.need l≤m0.old.limit) {i:Nat} {a:Int} (ha:l[i]?=some a):(m0.mid U Z).hdr (m0.old.top+m0.need (l.take i))=(0,(m0.hdr a).2)∧(m0.mid U Z).at_ (m0.old.top+m0.need (l.take i)+1)=m0.at_ (a+1):=by
 obtain⟨h1,_,_⟩:=hl.ok a (List.mem_of_getElem? ha)
 obtain⟨x,v,hx,hd,hv,hi,hw⟩:=Spc.hdr_ok (s:=m0.sp a) h1
 have hz':=hz.hd i a ha
 have e1:(m0.at_ a).getD 0=x:=by unfold Mm.at_;rw[hx];rfl
 have hyy:=hl.yng ok a (List.mem_of_getElem? ha)
 have e4:=((mid_sp ok hu.len hz.len hf a).2 hyy).2
 have hv1:m0.at_ (a+1)=some v:=by
  have h5:m0.sp (a+1)=m0.sp a:=ok.sp_near (by rw[e4];exact hyy) (Spc.at_has hv)
  unfold Mm.at_
  rw[h5]
  exact hv
 have e2:(m0.at_ (a+1)).getD 0=v:=by rw[hv1];rfl
 rw[e1,e2] at hz'
 have hn:=m0.need_nn (l.take i)
 have hle:=m0.need_le ha
 have g1:=mid_new (U:=U) ok hu.len hz'.1
 have g2:=mid_new (U:=U) ok hu.len hz'.2
 rw[show m0.old.top+((m0.need (l.take i)).toNat:Int)=m0.old.top+m0.need (l.take i) by omega] at g1
 rw[show m0.old.top+(((m0.need (l.take i)).toNat+1:Nat):Int)=m0.old.top+m0.need (l.take i)+1 by omega] at g2
 have hsp:∀ b,(m0.mid U Z).old.has b=true→(m0.mid U Z).sp b=(m0.mid U Z).old:=fun b hb=>by unfold Mm.sp;rw[if_pos hb]
 have hdd:(m0.sp a).hdr a=m0.hdr a:=rfl
 rw[hdd] at hd hw
 have g3:(m0.mid U Z).old.has (m0.old.top+m0.need (l.take i)+wH (m0.hdr a).2 - 1)=true:=by
  have h5:=mid_len (m0:=m0) hu.len hz.len
  have h6:=wH_ge (dH_some hd).1
  refine Spc.has_iff.2 ⟨?_,?_⟩
  ·show m0.old.base≤_
   unfold Spc.top
   omega
  ·show _ < m0.old.base+_
   unfold Spc.top
   omega
 constructor
 ·have e:∀ b,(m0.mid U Z).hdr b=((m0.mid U Z).sp b).hdr b:=fun b=>rfl
  rw[e,hsp _ (Spc.at_has g1)]
  unfold Spc.hdr
  rw[g1]
  dsimp only
  rw[hd,g2]
  dsimp only
  rw[if_neg (by rw[g3];simp[hi])]
 ·unfold Mm.at_
  rw[hsp _ (Spc.at_has g2),g2]
  exact hv1.symm
theorem Mid.of (ok:m0.Ok) (hl:m0.OrdI l) (hu:UpdI m0 l (m0.plc m0.old.top l) U) (hz:LaidZ m0 l Z) (hf:m0.old.top+m0.need l≤m0.old.limit):Mid m0 l (m0.plc m0.old.top l) (m0.mid U Z):=by
 refine⟨mid_Ok ok hu hz hf,fun b hb=>mid_hd ok hu hz hf hb,fun b hb h4=>?_,fun r hr=>?_,?_⟩
 ·have hfw:=vH_bound (Mm.hdr_valid hb)
  have hge:=wH_ge (Mm.hdr_valid hb)
  have h1:=ok.has_near hb (j:=2) (by omega) (by omega)
  have h2:=Mm.hdr_has hb
  unfold Mm.has Mm.sp at h2
  split at h2
  ·rename_i ho
   obtain⟨e1,e2⟩:=(mid_sp ok hu.len hz.len hf b).1 ho
   have h3:m0.old.has (b+2)=true:=by have:=h1.1;unfold Mm.has at this;rw[h1.2,e2] at this;exact this
   obtain⟨e3,e4⟩:=(mid_sp ok hu.len hz.len hf (b+2)).1 h3
   obtain⟨_,_,_,x,_,hx⟩:=Spc.at_some h3
   unfold Mm.at_
   rw[e3,e4,hx]
   rcases mid_old (Z:=Z) ok hu hx with h5 | ⟨h5,r,h6,h7,h8⟩
   ·exact .inl h5
   ·exact .inr ⟨x,r,rfl,h6,h7,h8⟩
  ·have ho:m0.yng.has b=true:=h2
   obtain⟨e1,e2⟩:=(mid_sp ok hu.len hz.len hf b).2 ho
   have h3:m0.yng.has (b+2)=true:=by have:=h1.1;unfold Mm.has at this;rw[h1.2,e2] at this;exact this
   obtain⟨e3,e4⟩:=(mid_sp ok hu.len hz.len hf (b+2)).2 h3
   unfold Mm.at_
   rw[e3,e4]
   exact .inl rfl
 ·obtain⟨i,hi⟩:=List.getElem?_of_mem hr
  have e:=m0.plc_at hl.nd (t:=m0.old.top) hi
  have h1:=(mid_nw ok hl hu hz hf hi).1
  rw[e,h1]
  have h2:=m0.need_le hi
  have h3:=m0.need_nn (l.take i)
  have h4:=wH_ge (Mm.hdr_valid (hl.ok r hr).1)
  have h5:=ok.ol
  have h6:0≤m0.old.top:=by unfold Spc.top;rw[ok.ob];omega
  exact⟨rfl,(hl.ok r hr).2.1,by omega,by omega⟩
 ·show m0.old.ws.length+m0.yng.ws.length≤(U++Z).length+m0.yng.ws.length
  rw[List.length_append,hu.len]
  omega
end
/-- a word that has been looked at -/
def Mm.Met (m:Mm) (l:List Int) (x:Int):Prop:=m.ld x≠none∧∀ r,m.ld x=some (some r)→Lst l r
theorem Mm.Met.mono {m:Mm} {l l':List Int} {x:Int} (h:m.Met l x) (hs:∀ a∈l,a∈l'):m.Met l' x:=⟨h.1,fun r hr h2=>hs r (h.2 r hr h2)⟩
theorem Mm.ord1_met {m:Mm} {p:List Int × Bool} {x:Int} (h:(m.ord1 p x).2=false):p.2=false∧(∀ a∈p.1,a∈(m.ord1 p x).1)∧m.Met (m.ord1 p x).1 x:=by
 unfold Mm.ord1 at h ⊢
 unfold Mm.Met
 cases hx:m.ld x with
 | none=>rw[hx] at h;cases h
 | some o =>
  rw[hx] at h
  cases o with
  | none=>exact⟨h,fun a ha=>ha,by simp,fun r hr=>by cases hr⟩
  | some a =>
   dsimp only at h ⊢
   split
   ·rename_i h1
    rw[if_pos h1] at h
    exact⟨h,fun b hb=>List.mem_append.2 (.inl hb),by simp,fun r hr _=>by cases hr;simp⟩
   ·rename_i h1
    rw[if_neg h1] at h
    refine⟨h,fun b hb=>hb,by simp,fun r hr h2=>?_⟩
    cases hr
    have h3:¬ p.1.contains a=false:=fun e=>h1 ⟨h2,e⟩
    simpa using h3
theorem Mm.ordW_met {m:Mm}:∀ (ws:List Int) {p:List Int × Bool},(ws.foldl m.ord1 p).2=false→p.2=false∧(∀ a∈p.1,a∈(ws.foldl m.ord1 p).1)∧∀ x∈ws,m.Met (ws.foldl m.ord1 p).1 x
 | [],p,h=>⟨h,fun a ha=>ha,fun x hx=>by cases hx⟩
 | x::ws,p,h=>by
  obtain⟨h1,h2,h3⟩:=Mm.ordW_met ws (p:=m.ord1 p x) h
  obtain⟨h4,h5,h6⟩:=Mm.ord1_met h1
  refine⟨h4,fun a ha=>h2 a (h5 a ha),fun y hy=>?_⟩
  rcases List.mem_cons.1 hy with rfl | hy
  ·exact h6.mono h2
  ·exact h3 y hy
theorem Mm.ord1_pre (m:Mm) (p:List Int × Bool) (x:Int):p.1 <+: (m.ord1 p x).1:=by
 unfold Mm.ord1
 split
 ·exact List.prefix_refl _
 ·exact List.prefix_refl _
 ·split
  ·exact List.prefix_append ..
  ·exact List.prefix_refl _
theorem Mm.ordW_pre (m:Mm):∀ (ws:List Int) (p:List Int × Bool),p.1 <+: (ws.foldl m.ord1 p).1
 | [],p=>List.prefix_refl _
 | x::ws,p=>(m.ord1_pre p x).trans (Mm.ordW_pre m ws (m.ord1 p x))
theorem Mm.ordN_met {m:Mm}:∀ (f i:Nat) {p:List Int × Bool},(m.ordN f i p).2=false→(m.ordN f i p).1.length≤i+f→p.2=false∧p.1 <+: (m.ordN f i p).1∧∀ (j:Nat) (a:Int),i≤j→(m.ordN f i p).1[j]?=some a→∀ x∈m.slW a,m.Met (m.ordN f i p).1 x
 | 0,i,p,h,hl=>⟨h,List.prefix_refl _,fun j a hj ha=>by
   have:=(List.getElem?_eq_some_iff.1 ha).1
   change p.1.length≤i+0 at hl
   change j < p.1.length at this
   omega⟩
 | f+1,i,p,h,hl=>by
  unfold Mm.ordN at h hl ⊢
  cases hi:p.1[i]? with
  | none =>
   rw[hi] at h hl
   refine⟨h,List.prefix_refl _,fun j a hj ha=>?_⟩
   have h5:=(List.getElem?_eq_some_iff.1 ha).1
   have h6:=List.getElem?_eq_none_iff.1 hi
   change j < p.1.length at h5
   omega
  | some b =>
   rw[hi] at h hl
   dsimp only at h hl ⊢
   obtain⟨h1,h2,h3⟩:=Mm.ordN_met f (i+1) h (by omega)
   obtain⟨h4,h5,h6⟩:=Mm.ordW_met _ h1
   have hp:=m.ordW_pre (m.slW b) p
   refine⟨h4,hp.trans h2,fun j a hj ha x hx=>?_⟩
   by_cases hji:j=i
   ·subst hji
    have:(m.ordN f (j+1) ((m.slW b).foldl m.ord1 p)).1[j]?=some b:=by
     obtain⟨z,hz⟩:=hp.trans h2
     rw[← hz,List.getElem?_append_left (List.getElem?_eq_some_iff.1 hi).1]
     exact hi
    rw[this] at ha
    cases ha
    exact(h6 x hx).mono fun c hc=>h2.subset hc
   ·exact h3 j a (by omega) ha x hx
theorem Mm.order_met {m:Mm} (ok:m.Ok) {cs roots:List Int} (h:(m.order cs roots).2=false):(∀ x∈roots,m.Met (m.order cs roots).1 x)∧(∀ x∈m.remW cs,m.Met (m.order cs roots).1 x)∧∀ a∈(m.order cs roots).1,∀ x∈m.slW a,m.Met (m.order cs roots).1 x:=by
 have hl:=(m.order_I cs roots).len ok
 obtain⟨h1,h2,h3⟩:=Mm.ordN_met (m.yng.ws.length+1) 0 (p:=(m.remW cs).foldl m.ord1 (roots.foldl m.ord1 ([],false))) h (by
  show(m.order cs roots).1.length≤_
  omega)
 obtain⟨h4,h5,h6⟩:=Mm.ordW_met _ h1
 obtain⟨h7,h8,h9⟩:=Mm.ordW_met _ h4
 refine⟨fun x hx=>(h9 x hx).mono fun a ha=>h2.subset (h5 a ha),fun x hx=>(h6 x hx).mono fun a ha=>h2.subset ha,fun a ha x hx=>?_⟩
 obtain⟨j,hj⟩:=List.getElem?_of_mem ha
 exact h3 j a (Nat.zero_le _) hj x hx
/-- an object's words as they are allocated -/
def Mm.hdW (m:Mm) (a:Int):List Int:=[(m.at_ a).getD 0,(m.at_ (a+1)).getD 0]++List.replicate (wH (m.hdr a).2 - 2).toNat 0
theorem Mm.hdW_len {m:Mm} {a:Int} (h:(m.hdr a).1=0):(m.hdW a).length=(wH (m.hdr a).2).toNat:=by
 have:=wH_ge (Mm.hdr_valid h)
 unfold Mm.hdW
 simp
 omega
theorem Mm.cpy_len (m:Mm) (l ts:List Int) (a:Int):(m.cpy l ts a).length=(wH (m.hdr a).2).toNat:=by unfold Mm.cpy;simp
theorem Mm.flat_len (m:Mm) {f:Int→List Int}:∀ {l:List Int},(∀ a∈l,(f a).length=(wH (m.hdr a).2).toNat)→((l.flatMap f).length:Int)=m.need l
 | [],h=>by simp[Mm.need]
 | a::l,h=>by
  have h1:=Mm.flat_len m (f:=f) (l:=l) fun b hb=>h b (List.mem_cons_of_mem _ hb)
  have h2:=h a (List.mem_cons_self ..)
  have h3:=wH_bound (m.hdr a).2
  rw[List.flatMap_cons,List.length_append]
  unfold Mm.need
  omega
theorem flat_get {f:Int→List Int} {l:List Int} {i k:Nat} {a:Int} (h:l[i]?=some a) (hk:k < (f a).length):(l.flatMap f)[((l.take i).flatMap f).length+k]?=(f a)[k]?:=by
 obtain⟨hi,he⟩:=List.getElem?_eq_some_iff.1 h
 have e:l=l.take i++a::l.drop (i+1):=by
  rw[← he,← List.drop_eq_getElem_cons hi,List.take_append_drop]
 conv=>lhs;rw[e]
 rw[List.flatMap_append,List.getElem?_append_right (by rw[List.take_append_of_le_length (by simp;omega),List.take_take,Nat.min_self];omega),List.flatMap_cons]
 rw[List.take_append_of_le_length (by simp;omega),List.take_take,Nat.min_self,Nat.add_sub_cancel_left,List.getElem?_append_left hk]
theorem Mm.laid_of {m:Mm} {l:List Int} {f:Int→List Int} (hl:m.OrdI l) (h:∀ a∈l,(f a).length=(wH (m.hdr a).2).toNat) (hu:∀ a∈l,∀ x∈f a,U64 x) (h2:∀ a∈l,(f a)[0]?=some ((m.at_ a).getD 0)∧(f a)[1]?=some ((m.at_ (a+1)).getD 0)):LaidZ m l (l.flatMap f):=by
 refine⟨m.flat_len h,fun x hx=>?_,fun i a ha=>?_⟩
 ·obtain⟨a,h3,h4⟩:=List.mem_flatMap.1 hx
  exact hu a h3 x h4
 ·have hm:=List.mem_of_getElem? ha
  have h3:=m.flat_len (f:=f) (l:=l.take i) fun b hb=>h b (List.mem_of_mem_take hb)
  have h4:=wH_ge (Mm.hdr_valid (hl.ok a hm).1)
  have h5:=h a hm
  have e:(m.need (l.take i)).toNat=((l.take i).flatMap f).length:=by omega
  rw[e]
  refine⟨?_,?_⟩
  ·rw[show((l.take i).flatMap f).length=((l.take i).flatMap f).length+0 from rfl,flat_get ha (by omega)]
   exact(h2 a hm).1
  ·rw[flat_get ha (by omega)]
   exact(h2 a hm).2
theorem Mm.need_lt (m:Mm) {l:List Int} {i j:Nat} {a:Int} (h:l[j]?=some a) (hj:j < i):m.need (l.take j)+wH (m.hdr a).2≤m.need (l.take i):=by
 have h1:(l.take i)[j]?=some a:=by rw[List.getElem?_take_of_lt hj];exact h
 have h2:=m.need_le h1
 rw[List.take_take,Nat.min_eq_left (by omega)] at h2
 exact h2
theorem LaidZ.set {m:Mm} {l Z:List Int} (hl:m.OrdI l) (h:LaidZ m l Z) {i k:Nat} {a x:Int} (ha:l[i]?=some a) (h2:2≤k) (hk:(k:Int) < wH (m.hdr a).2) (hx:U64 x):LaidZ m l (Z.set ((m.need (l.take i)).toNat+k) x):=by
 refine⟨by rw[List.length_set];exact h.len,fun y hy=>?_,fun j b hb=>?_⟩
 ·rcases List.mem_or_eq_of_mem_set hy with hy | rfl
  ·exact h.u y hy
  ·exact hx
 ·have hn1:=m.need_nn (l.take i)
  have hn2:=m.need_nn (l.take j)
  have hg:=wH_ge (Mm.hdr_valid (hl.ok b (List.mem_of_getElem? hb)).1)
  have:(m.need (l.take i)).toNat+k≠(m.need (l.take j)).toNat∧(m.need (l.take i)).toNat+k≠(m.need (l.take j)).toNat+1:=by
   rcases Nat.lt_trichotomy i j with h3 | h3 | h3
   ·have:=m.need_lt ha h3
    omega
   ·subst h3
    omega
   ·have:=m.need_lt hb h3
    omega
  rw[List.getElem?_set_ne this.1,List.getElem?_set_ne this.2]
  exact h.hd j b hb
theorem mid_put_old {m0:Mm} (ok:m0.Ok) {U Z:List Int} (hu:U.length=m0.old.ws.length) {a x:Int} (ha:m0.old.has a=true):(m0.mid U Z).put a x=m0.mid (U.set a.toNat x) Z:=by
 have h1:=Spc.has_iff.1 ha
 rw[ok.ob] at h1
 have hb:(m0.mid U Z).old.base=0:=ok.ob
 have h2:(m0.mid U Z).old.has a=true:=Spc.has_iff.2 ⟨by omega,by
  show _ < (m0.mid U Z).old.base+((U++Z).length:Int)
  rw[hb,List.length_append]
  omega⟩
 unfold Mm.put
 rw[if_pos h2]
 unfold Spc.put
 rw[if_pos h2,show(a - (m0.mid U Z).old.base).toNat=a.toNat by rw[hb,Int.sub_zero]]
 show(⟨⟨_,_,(U++Z).set a.toNat x⟩,_⟩:Mm)=_
 rw[List.set_append_left _ _ (by omega)]
 rfl
theorem mid_put_new {m0:Mm} (ok:m0.Ok) {U Z:List Int} (hu:U.length=m0.old.ws.length) {k:Nat} {x:Int} (hk:k < Z.length):(m0.mid U Z).put (m0.old.top+(k:Int)) x=m0.mid U (Z.set k x):=by
 have hb:(m0.mid U Z).old.base=0:=ok.ob
 have ht:m0.old.top=(m0.old.ws.length:Int):=by unfold Spc.top;rw[ok.ob];omega
 have h2:(m0.mid U Z).old.has (m0.old.top+(k:Int))=true:=Spc.has_iff.2 ⟨by omega,by
  show _ < (m0.mid U Z).old.base+((U++Z).length:Int)
  rw[hb,List.length_append]
  omega⟩
 unfold Mm.put
 rw[if_pos h2]
 unfold Spc.put
 rw[if_pos h2,show(m0.old.top+(k:Int) - (m0.mid U Z).old.base).toNat=U.length+k by rw[hb];omega]
 show(⟨⟨_,_,(U++Z).set _ x⟩,_⟩:Mm)=_
 rw[List.set_append_right _ _ (by omega),Nat.add_sub_cancel_left]
 rfl
theorem Mm.Met.yg {m:Mm} {l:List Int} {x:Int} (h:m.Met l x) (hy:ygW x=true):∃ r,m.ld x=some (some r)∧Lst l r:=by
 cases hx:m.ld x with
 | none=>exact absurd hx h.1
 | some o =>
  cases o with
  | none=>rw[Mm.ld_no hx] at hy;cases hy
  | some r=>exact⟨r,rfl,h.2 r hx⟩
theorem Mm.mvd_to {m:Mm} {l ts:List Int} {x r:Int} (h:m.ld x=some (some r)):m.mvd l ts x=frW (newAt l ts r):=by unfold Mm.mvd;rw[h]
theorem Mm.upd_snoc (m:Mm) (l ts:List Int) (a:Int):∀ (at_ ws:List Int),m.upd l ts (at_++[a]) ws=(m.upd l ts at_ ws).set (a - m.old.base).toNat (m.mvd l ts (((m.upd l ts at_ ws)[(a - m.old.base).toNat]?).getD 0))
 | [],ws=>rfl
 | b::at_,ws=>by
  rw[List.cons_append]
  unfold Mm.upd
  exact Mm.upd_snoc m l ts a at_ _
theorem Mm.upd_len (m:Mm) (l ts:List Int):∀ (at_ ws:List Int),(m.upd l ts at_ ws).length=ws.length
 | [],ws=>rfl
 | a::at_,ws=>by unfold Mm.upd;rw[Mm.upd_len m l ts at_,List.length_set]
/-- what remembered slots are -/
structure Mm.CrI (m:Mm) (l cr:List Int):Prop where
 nd:cr.Nodup
 ok:∀ a∈cr,m.old.has a=true∧∃ x,m.at_ a=some x∧m.old.at_ a=some x∧ygW x=true∧m.Met l x
theorem Mm.CrI.pre {m:Mm} {l cr cr':List Int} (h:m.CrI l (cr++cr')):m.CrI l cr:=⟨(List.nodup_append.1 h.nd).1,fun a ha=>h.ok a (List.mem_append.2 (.inl ha))⟩
theorem UpdI.upd {m0:Mm} (ok:m0.Ok) {l ts:List Int}:∀ {cr:List Int} (n:Nat),cr.length=n→m0.CrI l cr→UpdI m0 l ts (m0.upd l ts cr m0.old.ws)∧∀ i:Nat,(i:Int) ∉ cr→(m0.upd l ts cr m0.old.ws)[i]?=m0.old.ws[i]?
 | cr,0,hn,h=>by
  obtain rfl:=List.length_eq_zero_iff.1 hn
  exact⟨UpdI.refl ok l ts,fun i _=>rfl⟩
 | cr,n+1,hn,h=>by
  obtain⟨cr',a,rfl⟩:∃ cr' a,cr=cr'++[a]:=by
   rcases List.eq_nil_or_concat cr with rfl | ⟨c,b,rfl⟩
   ·cases hn
   ·exact⟨c,b,by simp⟩
  obtain⟨h1,h2⟩:=UpdI.upd ok (ts:=ts) (cr:=cr') n (by simpa using hn) h.pre
  have hna:a ∉ cr':=fun e=>(List.nodup_append.1 h.nd).2.2 a e a (by simp) rfl
  obtain⟨ho,x,hx,hox,hy,hm⟩:=h.ok a (by simp)
  obtain⟨r,hr,hl⟩:=hm.yg hy
  obtain⟨a0,ax⟩:=Spc.at_zero ok.ob hox
  have hax:=(List.getElem?_eq_some_iff.1 ax).1
  have e1:(m0.upd l ts cr' m0.old.ws)[a.toNat]?=some x:=by rw[h2 a.toNat (by rw[Int.toNat_of_nonneg a0];exact hna)];exact ax
  rw[Mm.upd_snoc,ok.ob,Int.sub_zero,e1,Option.getD_some,Mm.mvd_to hr]
  refine⟨⟨by rw[List.length_set];exact h1.len,fun y hy=>?_,fun i=>?_⟩,fun i hi=>?_⟩
  ·rcases List.mem_or_eq_of_mem_set hy with hy | rfl
   ·exact h1.u y hy
   ·exact frW_u _
  ·by_cases hi:i=a.toNat
   ·subst hi
    right
    refine⟨x,r,ax,hy,hr,hl,?_⟩
    rw[List.getElem?_set_self (by rw[h1.len];exact hax)]
   ·rw[List.getElem?_set_ne (fun e=>hi e.symm)]
    exact h1.ch i
  ·rw[List.getElem?_set_ne (fun e=>hi (by rw[← e,Int.toNat_of_nonneg a0];simp)),h2 i fun e=>hi (List.mem_append.2 (.inl e))]
/-- the words of a remembered slot, before it is replaced -/
theorem Mm.upd_at {m0:Mm} (ok:m0.Ok) {l ts cr Z:List Int} {j:Nat} {a:Int} (h:m0.CrI l cr) (ha:cr[j]?=some a):∃ x r,m0.at_ a=some x∧ygW x=true∧m0.ld x=some (some r)∧Lst l r∧m0.Met l x∧(m0.mid (m0.upd l ts (cr.take j) m0.old.ws) Z).at_ a=some x∧(m0.mid (m0.upd l ts (cr.take j) m0.old.ws) Z).put a (m0.mvd l ts x)=m0.mid (m0.upd l ts (cr.take (j+1)) m0.old.ws) Z∧(m0.mid (m0.upd l ts (cr.take j) m0.old.ws) Z).has a=true:=by
 obtain⟨ho,x,hx,hox,hy,hm⟩:=h.ok a (List.mem_of_getElem? ha)
 obtain⟨r,hr,hl⟩:=hm.yg hy
 obtain⟨a0,ax⟩:=Spc.at_zero ok.ob hox
 have hax:=(List.getElem?_eq_some_iff.1 ax).1
 have hc:m0.CrI l (cr.take j):=Mm.CrI.pre (cr':=cr.drop j) (by rw[List.take_append_drop];exact h)
 obtain⟨h1,h2⟩:=UpdI.upd ok (ts:=ts) _ rfl hc
 have hna:a ∉ cr.take j:=fun e=>by
  obtain⟨i,hi⟩:=List.getElem?_of_mem e
  have hij:i < j:=by have:=(List.getElem?_eq_some_iff.1 hi).1;rw[List.length_take] at this;omega
  rw[List.getElem?_take_of_lt hij] at hi
  have:=(List.getElem?_inj (List.getElem?_eq_some_iff.1 hi).1 h.nd).1 (hi.trans ha.symm)
  omega
 have e1:(m0.upd l ts (cr.take j) m0.old.ws)[a.toNat]?=some x:=by rw[h2 a.toNat (by rw[Int.toNat_of_nonneg a0];exact hna)];exact ax
 have hb:(m0.mid (m0.upd l ts (cr.take j) m0.old.ws) Z).old.base=0:=ok.ob
 have e2:(m0.mid (m0.upd l ts (cr.take j) m0.old.ws) Z).old.at_ a=some x:=Spc.at_of hb a0 (by
  show(_++_)[_]?=_
  rw[List.getElem?_append_left (by rw[h1.len];exact hax)]
  exact e1)
 have e3:(m0.mid (m0.upd l ts (cr.take j) m0.old.ws) Z).sp a=(m0.mid (m0.upd l ts (cr.take j) m0.old.ws) Z).old:=by
  unfold Mm.sp
  rw[if_pos (Spc.at_has e2)]
 refine⟨x,r,hx,hy,hr,hl,hm,?_,?_,?_⟩
 ·unfold Mm.at_;rw[e3];exact e2
 ·rw[mid_put_old ok h1.len ho,List.take_add_one,ha]
  show _=m0.mid (m0.upd l ts (cr.take j++[a]) m0.old.ws) Z
  rw[Mm.upd_snoc,ok.ob,Int.sub_zero,e1,Option.getD_some]
 ·unfold Mm.has;rw[e3];exact Spc.at_has e2
def Mm.zI (m:Mm) (l ts:List Int) (i:Nat):List Int:=(l.take i).flatMap (m.cpy l ts)++(l.drop i).flatMap m.hdW
def Mm.zK (m:Mm) (l ts:List Int) (i:Nat) (a:Int) (k:Nat):List Int:=(l.take i).flatMap (m.cpy l ts)++(((m.cpy l ts a).take k++(m.hdW a).drop k)++(l.drop (i+1)).flatMap m.hdW)
theorem Mm.cpy_get (m:Mm) (l ts:List Int) (a:Int) {k:Nat} (h:(k:Int) < wH (m.hdr a).2):(m.cpy l ts a)[k]?=some (if 2≤k∧(k:Int) < 2+slotN (m.hdr a).2 then m.mvd l ts ((m.at_ (a+(k:Int))).getD 0) else (m.at_ (a+(k:Int))).getD 0):=by
 unfold Mm.cpy
 rw[List.getElem?_map,List.getElem?_range (by omega)]
 rfl
theorem Mm.cpy_two (m:Mm) (l ts:List Int) {a:Int} (h:(m.hdr a).1=0):(m.cpy l ts a).take 2++(m.hdW a).drop 2=m.hdW a:=by
 have h1:=wH_ge (Mm.hdr_valid h)
 have e:(m.cpy l ts a).take 2=(m.hdW a).take 2:=by
  apply List.ext_getElem?
  intro i
  by_cases hi:i < 2
  ·rw[List.getElem?_take_of_lt hi,List.getElem?_take_of_lt hi,m.cpy_get l ts a (by omega),if_neg (by omega)]
   rcases (show i=0 ∨ i=1 by omega) with rfl | rfl
   ·unfold Mm.hdW;simp
   ·unfold Mm.hdW;simp
  ·rw[List.getElem?_eq_none (by rw[List.length_take];omega),List.getElem?_eq_none (by rw[List.length_take];omega)]
 rw[e,List.take_append_drop]
theorem Mm.zK_two (m:Mm) (l ts:List Int) {i:Nat} {a:Int} (ha:l[i]?=some a) (h:(m.hdr a).1=0):m.zK l ts i a 2=m.zI l ts i:=by
 obtain⟨hi,he⟩:=List.getElem?_eq_some_iff.1 ha
 unfold Mm.zK Mm.zI
 rw[m.cpy_two l ts h,List.drop_eq_getElem_cons hi,he,List.flatMap_cons]
theorem Mm.zK_end (m:Mm) (l ts:List Int) {i:Nat} {a:Int} (ha:l[i]?=some a) (h:(m.hdr a).1=0) {k:Nat} (hk:(k:Int)=wH (m.hdr a).2):m.zK l ts i a k=m.zI l ts (i+1):=by
 have h1:=m.cpy_len l ts a
 have h2:=Mm.hdW_len h
 unfold Mm.zK Mm.zI
 have e1:(m.cpy l ts a).take k=m.cpy l ts a:=List.take_of_length_le (by omega)
 have e2:(m.hdW a).drop k=[]:=List.drop_eq_nil_of_le (by omega)
 rw[e1,e2,List.append_nil,List.take_add_one,ha,List.flatMap_append,List.append_assoc]
 simp
theorem Mm.cpT_len {m:Mm} {l:List Int} (hl:m.OrdI l) (ts:List Int) (i:Nat):(((l.take i).flatMap (m.cpy l ts)).length:Int)=m.need (l.take i):=m.flat_len fun b hb=>m.cpy_len l ts b
theorem Mm.zK_len {m:Mm} {l:List Int} (hl:m.OrdI l) (ts:List Int) {i:Nat} {a:Int} (ha:l[i]?=some a) {k:Nat} (hk:(k:Int)≤wH (m.hdr a).2):((m.zK l ts i a k).length:Int)=m.need l:=by
 have hm:=List.mem_of_getElem? ha
 obtain⟨hi,he⟩:=List.getElem?_eq_some_iff.1 ha
 have h1:=Mm.cpT_len hl ts i
 have h2:(((l.drop (i+1)).flatMap m.hdW).length:Int)=m.need (l.drop (i+1)):=m.flat_len fun b hb=>Mm.hdW_len (hl.ok b (List.mem_of_mem_drop hb)).1
 have h3:=m.cpy_len l ts a
 have h4:=Mm.hdW_len (hl.ok a hm).1
 have h5:=m.need_app (l.take (i+1)) (l.drop (i+1))
 rw[List.take_append_drop,m.need_step ha] at h5
 have h6:=wH_bound (m.hdr a).2
 unfold Mm.zK
 rw[List.length_append,List.length_append,List.length_append,List.length_take,List.length_drop]
 omega
theorem Mm.zK_set {m:Mm} {l:List Int} (hl:m.OrdI l) (ts:List Int) {i:Nat} {a:Int} (ha:l[i]?=some a) {k:Nat} (hk:(k:Int) < wH (m.hdr a).2) {x:Int} (hx:(m.cpy l ts a)[k]?=some x):(m.zK l ts i a k).set ((m.need (l.take i)).toNat+k) x=m.zK l ts i a (k+1):=by
 have h1:=Mm.cpT_len hl ts i
 have h3:=m.cpy_len l ts a
 have h4:=Mm.hdW_len (hl.ok a (List.mem_of_getElem? ha)).1
 unfold Mm.zK
 rw[List.set_append_right _ _ (by omega),show(m.need (l.take i)).toNat+k - ((l.take i).flatMap (m.cpy l ts)).length=k by omega,List.set_append_left _ _ (by rw[List.length_append,List.length_take,List.length_drop];omega),List.set_append_right _ _ (by rw[List.length_take];omega)]
 have e:((m.hdW a).drop k).set 0 x=x::(m.hdW a).drop (k+1):=by rw[List.drop_eq_getElem_cons (by omega)];rfl
 rw[List.length_take,Nat.min_eq_left (by omega),Nat.sub_self,e,List.take_add_one,hx]
 simp only[List.append_assoc,List.cons_append,List.nil_append,Option.toList_some]
end
end Go.Proofs.YtaijmgkjbbiboaaGreat
