/- Parts of the proof: NurL. -/
import Derived.Test.YtaijmgkjbbiboaaGreatPcA
import Derived.Test.YtaijmgkjbbiboaaGreatPc14
import Derived.Test.YtaijmgkjbbiboaaGreatPc15
import Derived.Test.YtaijmgkjbbiboaaGreatPc7
set_option linter.unusedVariables false
set_option linter.unusedSimpArgs false
set_option linter.unusedSectionVars false
set_option maxRecDepth 100000
namespace Go.Proofs.YtaijmgkjbbiboaaGreat
section
structure Spc.Sh (s t:Spc):Prop where
 b:s.base=t.base
 l:s.limit=t.limit
 n:s.ws.length=t.ws.length
structure Mm.Sh (m n:Mm):Prop where
 o:m.old.Sh n.old
 y:m.yng.Sh n.yng
theorem Spc.Sh.refl (s:Spc):s.Sh s:=⟨rfl,rfl,rfl⟩
theorem Spc.Sh.trans {s t u:Spc} (h:s.Sh t) (h':t.Sh u):s.Sh u:=⟨h.b.trans h'.b,h.l.trans h'.l,h.n.trans h'.n⟩
theorem Mm.Sh.refl (m:Mm):m.Sh m:=⟨.refl _,.refl _⟩
theorem Mm.Sh.trans {m n k:Mm} (h:m.Sh n) (h':n.Sh k):m.Sh k:=⟨h.o.trans h'.o,h.y.trans h'.y⟩
theorem Spc.Sh.symm {s t:Spc} (h:s.Sh t):t.Sh s:=⟨h.b.symm,h.l.symm,h.n.symm⟩
theorem Mm.Sh.symm {m n:Mm} (h:m.Sh n):n.Sh m:=⟨h.o.symm,h.y.symm⟩
theorem Spc.put_Sh (s:Spc) (a x:Int):(s.put a x).Sh s:=⟨Spc.put_base _ _ _,Spc.put_limit _ _ _,Spc.put_len _ _ _⟩
theorem Mm.put_Sh (m:Mm) (a x:Int):(m.put a x).Sh m:=by
 unfold Mm.put
 split
 ·exact⟨Spc.put_Sh _ _ _,.refl _⟩
 ·exact⟨.refl _,Spc.put_Sh _ _ _⟩
theorem Mm.puts_Sh:∀ (l:List Int) (m:Mm) (a:Int),(m.puts a l).Sh m
 | [],m,a=>.refl _
 | x::l,m,a=>(Mm.puts_Sh l (m.put a x) (a+1)).trans (Mm.put_Sh m a x)
theorem Mm.write_Sh (m:Mm) (a k:Int) (pl:List Int):(m.write a k pl).Sh m:=(Mm.puts_Sh _ _ _).trans (Mm.put_Sh _ _ _)
theorem Mm.store_Sh (m:Mm) (a x:Int):(m.store a x).2.Sh m:=Mm.put_Sh _ _ _
theorem Mm.setF_Sh (m:Mm) (a i x:Int):(m.setF a i x).2.Sh m:=by
 unfold Mm.setF
 split
 ·exact .refl _
 ·exact Mm.store_Sh _ _ _
theorem Mm.toStub_Sh (m:Mm) (a o x:Int):(m.toStub a o x).2.Sh m:=by
 unfold Mm.toStub
 split
 ·exact .refl _
 ·split
  ·exact .refl _
  ·split
   ·exact .refl _
   ·exact Mm.write_Sh _ _ _ _
theorem Mm.toFwd_Sh (m:Mm) (a b:Int):(m.toFwd a b).2.Sh m:=by
 unfold Mm.toFwd
 split
 ·exact .refl _
 ·split
  ·exact .refl _
  ·split
   ·exact .refl _
   ·exact Mm.write_Sh _ _ _ _
theorem bst_Sh (m:Mm) (cs:List Int) (a i x:Int):(bst m cs a i x).2.1.Sh m:=by
 unfold bst
 split
 ·exact .refl _
 ·split
  ·exact Mm.put_Sh _ _ _
  ·exact Mm.put_Sh _ _ _
theorem Spc.Sh.top {s t:Spc} (h:s.Sh t):s.top=t.top:=by unfold Spc.top;rw[h.b,h.n]
theorem Spc.alloc_Sh {s t:Spc} (h:s.Sh t) (hd:Hdr) (i:Id):(s.alloc hd i).1=(t.alloc hd i).1∧(s.alloc hd i).2.2=(t.alloc hd i).2.2∧(s.alloc hd i).2.1.Sh (t.alloc hd i).2.1:=by
 unfold Spc.alloc
 rw[h.l,h.top]
 split
 ·exact⟨rfl,rfl,h⟩
 ·split
  ·exact⟨rfl,rfl,h⟩
  ·refine⟨rfl,rfl,h.b,rfl,?_⟩
   simp only[List.length_append,h.n]
theorem Mm.alloc_Sh {m n:Mm} (h:m.Sh n) (y:Bool) (hd:Hdr) (i:Id):(m.alloc y hd i).1=(n.alloc y hd i).1∧(m.alloc y hd i).2.2=(n.alloc y hd i).2.2∧(m.alloc y hd i).2.1.Sh (n.alloc y hd i).2.1:=by
 unfold Mm.alloc
 split
 ·obtain⟨h1,h2,h3⟩:=Spc.alloc_Sh h.y hd i
  exact⟨h1,h2,h.o,h3⟩
 ·obtain⟨h1,h2,h3⟩:=Spc.alloc_Sh h.o hd i
  exact⟨h1,h2,h3,h.y⟩
/-- where an allocation lies -/
theorem Mm.Ok.alloc_at {m:Mm} (ok:m.Ok) {y:Bool} {hd:Hdr} {i:Id} (h:(m.alloc y hd i).1=0):0≤(m.alloc y hd i).2.2∧(m.alloc y hd i).2.2≤4294967292∧(y=true↔16777216≤(m.alloc y hd i).2.2):=by
 cases y with
 | true =>
  unfold Mm.alloc at h ⊢
  rw[if_pos rfl] at h ⊢
  rcases m.yng.alloc_cases hd i with ⟨h2,_⟩ | ⟨hv,_,hl,h2⟩
  ·exact absurd h h2
  ·rw[h2]
   have:=ok.yb
   have h3:=ok.y.l0
   have:=wH_ge hv
   dsimp only
   unfold Spc.top at *
   refine⟨by omega,by omega,⟨fun _=>(by omega),fun _=>rfl⟩⟩
 | false =>
  unfold Mm.alloc at h ⊢
  rw[if_neg (by decide)] at h ⊢
  rcases m.old.alloc_cases hd i with ⟨h2,_⟩ | ⟨hv,_,hl,h2⟩
  ·exact absurd h h2
  ·rw[h2]
   have:=ok.ob
   have h3:=ok.ol
   have:=wH_ge hv
   dsimp only
   unfold Spc.top at *
   refine⟨by omega,by omega,⟨fun e=>(by cases e),fun e=>(by omega)⟩⟩
structure W10 where
 m:Mm
 cs:List Int
 xs:List Int
 hs:List Hdr
def wd10 (xs:List Int) (o:OpV):Int:=if o.r=true then frW (max 0 (objAt xs o.b)) else o.w
def W10.alloc (s:W10) (y:Bool) (h:Hdr):W10 :=
 if (s.m.alloc y h ⟨1,1+s.xs.length⟩).1=0 then ⟨(s.m.alloc y h ⟨1,1+s.xs.length⟩).2.1,s.cs,s.xs++[(s.m.alloc y h ⟨1,1+s.xs.length⟩).2.2],s.hs++[h]⟩ else s
def W10.step (s:W10) (o:OpV):W10 :=
 if o.k=0 then s.alloc false o.h
 else if o.k=1 then s.alloc true o.h
 else if o.k=2 then ⟨(bst s.m s.cs (objAt s.xs o.a) o.i (wd10 s.xs o)).2.1,(bst s.m s.cs (objAt s.xs o.a) o.i (wd10 s.xs o)).2.2,s.xs,s.hs⟩
 else if o.k=3 then ⟨(s.m.setF (objAt s.xs o.a) o.i (wd10 s.xs o)).2,s.cs,s.xs,s.hs⟩
 else if o.k=4 then ⟨(s.m.store o.a (wd10 s.xs o)).2,s.cs,s.xs,s.hs⟩
 else if o.k=5 then ⟨s.m,(cardMark s.cs o.a).2,s.xs,s.hs⟩
 else if o.k=6 then ⟨(s.m.toFwd (objAt s.xs o.a) (objAt s.xs o.b)).2,s.cs,s.xs,s.hs⟩
 else if o.k=7 then ⟨(s.m.toStub (objAt s.xs o.a) 2 (IntKind.u64.wrap o.i)).2,s.cs,s.xs,s.hs⟩
 else s
def bld10 (limit:Int) (l:List OpV):W10:=l.foldl W10.step ⟨Mm.new limit,[],[],[]⟩
theorem bld10_take {limit:Int} {l:List OpV} {j:Nat} {x:OpV} (h:l[j]?=some x):bld10 limit (l.take (j+1))=(bld10 limit (l.take j)).step x:=by
 unfold bld10
 rw[List.take_add_one,h,List.foldl_append]
 rfl
theorem wd10_u {o:OpV} (h:U64 o.w) (xs:List Int):U64 (wd10 xs o):=by
 unfold wd10
 split
 ·exact frW_u _
 ·exact h
structure CsI (cs:List Int) (n:Nat):Prop where
 inc:cs.Pairwise (· < ·)
 rg:∀ c∈cs,0≤c∧c < 1048576
 len:cs.length≤n
theorem CsI.nil:CsI [] 0:=⟨.nil,fun c h=>(by cases h),Nat.le_refl _⟩
theorem CsI.mono {cs:List Int} {n m:Nat} (h:CsI cs n) (hm:n≤m):CsI cs m:=⟨h.inc,h.rg,Nat.le_trans h.len hm⟩
theorem cardIns_mem {c x:Int}:∀ {l:List Int},x∈cardIns c l↔x=c ∨ x∈l
 | []=>by unfold cardIns;simp
 | y::l=>by
  unfold cardIns
  split
  ·rw[List.mem_cons,cardIns_mem,List.mem_cons]
   constructor
   ·rintro(h | h | h)
    ·exact .inr (.inl h)
    ·exact .inl h
    ·exact .inr (.inr h)
   ·rintro(h | h | h)
    ·exact .inr (.inl h)
    ·exact .inl h
    ·exact .inr (.inr h)
  ·rw[List.mem_cons]
theorem cardIns_len (c:Int):∀ l:List Int,(cardIns c l).length=l.length+1
 | []=>rfl
 | y::l=>by
  unfold cardIns
  split
  ·rw[List.length_cons,cardIns_len c l,List.length_cons]
  ·rfl
theorem cardIns_inc {c:Int}:∀ {l:List Int},l.Pairwise (· < ·)→c ∉ l→(cardIns c l).Pairwise (· < ·)
 | [],_,_=>by unfold cardIns;simp
 | y::l,h,hc=>by
  have h1:=List.pairwise_cons.1 h
  have hcy:c≠y:=fun e=>hc (e ▸ List.mem_cons_self ..)
  unfold cardIns
  split
  ·rename_i hy
   refine List.pairwise_cons.2 ⟨fun z hz=>?_,cardIns_inc h1.2 fun hm=>hc (List.mem_cons_of_mem _ hm)⟩
   rcases cardIns_mem.1 hz with rfl | hz
   ·exact hy
   ·exact h1.1 z hz
  ·rename_i hy
   refine List.pairwise_cons.2 ⟨fun z hz=>?_,h⟩
   rcases List.mem_cons.1 hz with rfl | hz
   ·omega
   ·have:=h1.1 z hz;omega
theorem CsI.mark {cs:List Int} {n:Nat} (h:CsI cs n) (a:Int):CsI (cardMark cs a).2 (n+1):=by
 unfold cardMark
 split
 ·exact h.mono (Nat.le_succ _)
 ·rename_i ho
  split
  ·exact h.mono (Nat.le_succ _)
  ·rename_i hc
   have h1:=(oldB_iff a).1 (by simpa using ho)
   have hn:a / 16 ∉ cs:=fun hm=>hc (by unfold cardIn;rw[(oldB_iff a).2 h1,Bool.true_and];simpa using hm)
   refine⟨cardIns_inc h.inc hn,fun c hm=>?_,by have:=h.len;rw[cardIns_len];omega⟩
   rcases cardIns_mem.1 hm with rfl | hm
   ·omega
   ·exact h.rg c hm
theorem CsI.bst {cs:List Int} {n:Nat} (h:CsI cs n) (m:Mm) (a i x:Int):CsI (bst m cs a i x).2.2 (n+1):=by
 unfold Go.Proofs.YtaijmgkjbbiboaaGreat.bst
 split
 ·exact h.mono (Nat.le_succ _)
 ·split
  ·exact h.mark _
  ·exact h.mono (Nat.le_succ _)
/-- marking the cards of a list in their order -/
theorem cardIns_last {c:Int}:∀ {l:List Int},(∀ x∈l,x < c)→cardIns c l=l++[c]
 | [],_=>rfl
 | y::l,h=>by
  unfold cardIns
  rw[if_pos (h y (List.mem_cons_self ..)),cardIns_last fun x hx=>h x (List.mem_cons_of_mem _ hx)]
  rfl
theorem CsI.again {cs:List Int} {n:Nat} (h:CsI cs n) {j:Nat} {c:Int} (hc:cs[j]?=some c):cardMark (cs.take j) (16*c)=(0,cs.take (j+1)):=by
 have hr:=h.rg c (List.mem_of_getElem? hc)
 have hlt:∀ x∈cs.take j,x < c:=fun x hx=>by
  obtain⟨i,hi⟩:=List.getElem?_of_mem hx
  have hij:i < j:=by have:=(List.getElem?_eq_some_iff.1 hi).1;rw[List.length_take] at this;omega
  rw[List.getElem?_take_of_lt hij] at hi
  obtain⟨h1,rfl⟩:=List.getElem?_eq_some_iff.1 hi
  obtain⟨h2,rfl⟩:=List.getElem?_eq_some_iff.1 hc
  exact List.pairwise_iff_getElem.1 h.inc i j h1 h2 hij
 have ho:oldB (16*c)=true:=(oldB_iff _).2 (by omega)
 have hd:16*c / 16=c:=by omega
 unfold cardMark
 rw[if_neg (by rw[ho];simp)]
 unfold cardIn
 rw[ho,Bool.true_and,hd]
 rw[if_neg (fun e=>by
  have:=hlt c (by simpa using e)
  omega),cardIns_last hlt,List.take_add_one,hc]
 rfl
structure In10 (limit:Int) (s:W10) (n:Nat):Prop where
 ok:s.m.Ok
 xl:s.xs.length≤n
 hl:s.hs.length=s.xs.length
 cs:CsI s.cs n
 xr:∀ x∈s.xs,0≤x∧x≤4294967292
 lo:s.m.old.limit=lim limit
 ly:s.m.yng.limit=16777216+lim limit
 re:∃ ma:Nat→Mm,ma 0=Mm.new limit∧(∀ i x h,s.xs[i]?=some x→s.hs[i]?=some h→(ma i).alloc (decide (16777216≤x)) h ⟨1,1+(i:Int)⟩=(0,ma (i+1),x))∧(ma s.xs.length).Sh s.m
theorem In10.nil (limit:Int):In10 limit ⟨Mm.new limit,[],[],[]⟩ 0 :=
 ⟨Mm.new_ok limit,Nat.le_refl _,rfl,CsI.nil,fun x h=>(by cases h),by show 0+lim limit=_;omega,rfl,fun _=>Mm.new limit,rfl,fun i x h hx=>by simp at hx,.refl _⟩
theorem In10.put {limit:Int} {s:W10} {n:Nat} (h:In10 limit s n) {m:Mm} {cs:List Int} (hm:m.Sh s.m) (ok:m.Ok) (hc:CsI cs (n+1)):In10 limit ⟨m,cs,s.xs,s.hs⟩ (n+1) :=
 ⟨ok,Nat.le_succ_of_le h.xl,h.hl,hc,h.xr,hm.o.l.trans h.lo,hm.y.l.trans h.ly,let ⟨ma,h1,h2,h3⟩:=h.re;⟨ma,h1,h2,h3.trans hm.symm⟩⟩
theorem In10.alloc {limit:Int} {s:W10} {n:Nat} (h:In10 limit s n) (y:Bool) (hd:Hdr):In10 limit (s.alloc y hd) (n+1):=by
 unfold W10.alloc
 split
 ·rename_i he
  obtain⟨ma,h1,h2,h3⟩:=h.re
  have hat:=h.ok.alloc_at he
  obtain⟨e1,e2,e3⟩:=Mm.alloc_Sh h3 y hd ⟨1,1+s.xs.length⟩
  have hlim:(s.m.alloc y hd ⟨1,1+s.xs.length⟩).2.1.old.limit=s.m.old.limit∧(s.m.alloc y hd ⟨1,1+s.xs.length⟩).2.1.yng.limit=s.m.yng.limit:=by
   unfold Mm.alloc
   split
   ·exact⟨rfl,(h.ok.y.alloc hd _).2.2⟩
   ·exact⟨(h.ok.o.alloc hd _).2.2,rfl⟩
  have hyd:decide (16777216≤(s.m.alloc y hd ⟨1,1+s.xs.length⟩).2.2)=y:=by
   cases hy:y with
   | true=>exact decide_eq_true (by rw[hy] at hat;exact hat.2.2.1 rfl)
   | false=>exact decide_eq_false fun e=>by rw[hy] at hat;have:=hat.2.2.2 e;cases this
  refine⟨h.ok.alloc _ _ _,by have:=h.xl;simp;omega,by simp[h.hl],h.cs.mono (Nat.le_succ _),fun x hx=>?_,hlim.1.trans h.lo,hlim.2.trans h.ly,fun j=>if j≤s.xs.length then ma j else ((ma s.xs.length).alloc y hd ⟨1,1+s.xs.length⟩).2.1,by simp[h1],fun i x g hx hg=>?_,?_⟩
  ·rcases List.mem_append.1 hx with hx | hx
   ·exact h.xr x hx
   ·rw[List.mem_singleton.1 hx];exact⟨hat.1,hat.2.1⟩
  ·dsimp only at hx hg ⊢
   have hil:i < (s.xs++[(s.m.alloc y hd ⟨1,1+s.xs.length⟩).2.2]).length:=(List.getElem?_eq_some_iff.1 hx).1
   rw[List.length_append,List.length_singleton] at hil
   by_cases hi:i < s.xs.length
   ·rw[List.getElem?_append_left hi] at hx
    rw[List.getElem?_append_left (by rw[h.hl];exact hi)] at hg
    rw[if_pos (by omega),if_pos (by omega)]
    exact h2 i x g hx hg
   ·obtain rfl:i=s.xs.length:=by omega
    rw[List.getElem?_append_right (Nat.le_refl _),Nat.sub_self] at hx
    rw[List.getElem?_append_right (by rw[h.hl];exact Nat.le_refl _),h.hl,Nat.sub_self] at hg
    obtain rfl:=Option.some.inj hx
    obtain rfl:=Option.some.inj hg
    rw[if_pos (Nat.le_refl _),if_neg (by omega),hyd]
    refine Prod.ext (e1.trans he) (Prod.ext rfl e2)
  ·dsimp only
   rw[List.length_append,List.length_singleton,if_neg (by omega)]
   exact e3
 ·exact⟨h.ok,Nat.le_succ_of_le h.xl,h.hl,h.cs.mono (Nat.le_succ _),h.xr,h.lo,h.ly,h.re⟩
theorem In10.step {limit:Int} {s:W10} {n:Nat} (h:In10 limit s n) (o:OpV) (hok:(s.step o).m.Ok):In10 limit (s.step o) (n+1):=by
 unfold W10.step at hok ⊢
 split
 ·exact h.alloc _ _
 ·rename_i h0
  rw[if_neg h0] at hok
  split
  ·exact h.alloc _ _
  ·rename_i h0
   rw[if_neg h0] at hok
   split
   ·rename_i h0
    rw[if_pos h0] at hok
    exact h.put (bst_Sh _ _ _ _ _) hok (h.cs.bst _ _ _ _)
   ·rename_i h0
    rw[if_neg h0] at hok
    split
    ·rename_i h0
     rw[if_pos h0] at hok
     exact h.put (Mm.setF_Sh _ _ _ _) hok (h.cs.mono (Nat.le_succ _))
    ·rename_i h0
     rw[if_neg h0] at hok
     split
     ·rename_i h0
      rw[if_pos h0] at hok
      exact h.put (Mm.store_Sh _ _ _) hok (h.cs.mono (Nat.le_succ _))
     ·rename_i h0
      rw[if_neg h0] at hok
      split
      ·exact h.put (.refl _) h.ok (h.cs.mark _)
      ·rename_i h0
       rw[if_neg h0] at hok
       split
       ·rename_i h0
        rw[if_pos h0] at hok
        exact h.put (Mm.toFwd_Sh _ _ _) hok (h.cs.mono (Nat.le_succ _))
       ·rename_i h0
        rw[if_neg h0] at hok
        split
        ·rename_i h0
         rw[if_pos h0] at hok
         exact h.put (Mm.toStub_Sh _ _ _ _) hok (h.cs.mono (Nat.le_succ _))
        ·exact⟨h.ok,Nat.le_succ_of_le h.xl,h.hl,h.cs.mono (Nat.le_succ _),h.xr,h.lo,h.ly,h.re⟩
theorem Spc.put_at_i {s:Spc} {j:Nat} (hj:j < s.ws.length) (x:Int):s.put (s.base+(j:Int)) x={ s with ws:=s.ws.set j x }:=by
 unfold Spc.put
 rw[if_pos (Spc.has_iff.2 ⟨by omega,by omega⟩)]
 congr 2
 omega
/-- the memory that has the words of another up to an index of the old, or of the young space -/
def Mm.reO (m n:Mm) (j:Nat):Mm:=⟨{ m.old with ws:=n.old.ws.take j++m.old.ws.drop j },m.yng⟩
def Mm.reY (m n:Mm) (j:Nat):Mm:=⟨n.old,{ m.yng with ws:=n.yng.ws.take j++m.yng.ws.drop j }⟩
theorem set_take_drop {l k:List Int} (h:l.length=k.length) {j:Nat} {x:Int} (hx:k[j]?=some x):(k.take j++l.drop j).set j x=k.take (j+1)++l.drop (j+1):=by
 have hj:=(List.getElem?_eq_some_iff.1 hx).1
 rw[List.set_append_right _ _ (by simp;omega),List.length_take,Nat.min_eq_left (Nat.le_of_lt hj),Nat.sub_self,List.drop_eq_getElem_cons (by omega),List.set_cons_zero,List.take_add_one,hx]
 simp
theorem Mm.Sh.reO_len {m n:Mm} (h:m.Sh n) {j:Nat} (hj:j≤n.old.ws.length):(n.old.ws.take j++m.old.ws.drop j).length=n.old.ws.length:=by
 have:=h.o.n
 simp
 omega
theorem Mm.Sh.reY_len {m n:Mm} (h:m.Sh n) {j:Nat} (hj:j≤n.yng.ws.length):(n.yng.ws.take j++m.yng.ws.drop j).length=n.yng.ws.length:=by
 have:=h.y.n
 simp
 omega
theorem Mm.Sh.reO_step {m n:Mm} (h:m.Sh n) (ok:n.Ok) {j:Nat} {x:Int} (hx:n.old.ws[j]?=some x):(m.reO n j).store (n.old.base+(j:Int)) x=(0,m.reO n (j+1)):=by
 have hj:=(List.getElem?_eq_some_iff.1 hx).1
 have hl:=h.reO_len (Nat.le_of_lt hj)
 have hb:=h.o.b
 have hh:(m.reO n j).old.has (n.old.base+(j:Int))=true:=Spc.has_iff.2 ⟨by show m.old.base≤_;omega,by
  show _ < m.old.base+((n.old.ws.take j++m.old.ws.drop j).length:Int)
  rw[hl];omega⟩
 unfold Mm.store Mm.has Mm.sp
 rw[if_pos hh,if_pos hh]
 unfold Mm.put
 rw[if_pos hh]
 have h2:=Spc.put_at_i (s:=(m.reO n j).old) (j:=j) (by show j < (n.old.ws.take j++m.old.ws.drop j).length;omega) x
 have e:(m.reO n j).old.base=n.old.base:=hb
 rw[e] at h2
 rw[h2]
 unfold Mm.reO
 dsimp only
 rw[set_take_drop h.o.n hx,hb]
theorem Mm.Sh.reO_end {m n:Mm} (h:m.Sh n):m.reO n n.old.ws.length=m.reY n 0:=by
 unfold Mm.reO Mm.reY
 have h1:=h.o.n
 rw[List.take_length,List.drop_eq_nil_of_le (by omega),List.append_nil]
 dsimp only
 rw[h.o.b,h.o.l]
 rfl
theorem Mm.Sh.reY_step {m n:Mm} (h:m.Sh n) (ok:n.Ok) {j:Nat} {x:Int} (hx:n.yng.ws[j]?=some x):(m.reY n j).store (n.yng.base+(j:Int)) x=(0,m.reY n (j+1)):=by
 have hj:=(List.getElem?_eq_some_iff.1 hx).1
 have hl:=h.reY_len (Nat.le_of_lt hj)
 have hb:=h.y.b
 have hyb:=ok.yb
 have hn:¬ (m.reY n j).old.has (n.yng.base+(j:Int))=true:=fun e=>by
  have:=ok.old_lt (show n.old.has _=true from e)
  omega
 have hh:(m.reY n j).yng.has (n.yng.base+(j:Int))=true:=Spc.has_iff.2 ⟨by show m.yng.base≤_;omega,by
  show _ < m.yng.base+((n.yng.ws.take j++m.yng.ws.drop j).length:Int)
  rw[hl];omega⟩
 unfold Mm.store Mm.has Mm.sp
 rw[if_neg hn,if_pos hh]
 unfold Mm.put
 rw[if_neg hn]
 have h2:=Spc.put_at_i (s:=(m.reY n j).yng) (j:=j) (by show j < (n.yng.ws.take j++m.yng.ws.drop j).length;omega) x
 have e:(m.reY n j).yng.base=n.yng.base:=hb
 rw[e] at h2
 rw[h2]
 unfold Mm.reY
 dsimp only
 rw[set_take_drop h.y.n hx,hb]
theorem Mm.Sh.reY_end {m n:Mm} (h:m.Sh n):m.reY n n.yng.ws.length=n:=by
 unfold Mm.reY
 have h1:=h.y.n
 rw[List.take_length,List.drop_eq_nil_of_le (by omega),List.append_nil]
 dsimp only
 rw[h.y.b,h.y.l]
def rts10 (xs choices:List Int):List Int:=choices.map fun c=>if 0≤c∧xs≠[] then frW (objAt xs c) else 21
theorem rts10_u (xs choices:List Int):∀ x∈rts10 xs choices,U64 x:=by
 intro x hx
 obtain⟨c,_,rfl⟩:=List.mem_map.1 hx
 split
 ·exact frW_u _
 ·exact⟨by decide,by decide⟩
end
end Go.Proofs.YtaijmgkjbbiboaaGreat
