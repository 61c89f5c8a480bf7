/- Parts of the proof: RcB, RcC0, RcC, RcL0. -/
import Derived.Test.YtmbnlccafcfbeaaGreatDoorPfA
import Derived.Test.YtmbnlccafcfbeaaGreatDoorPf4
set_option linter.unusedVariables false
set_option linter.unusedSimpArgs false
set_option linter.unusedSectionVars false
set_option maxRecDepth 100000
set_option maxHeartbeats 64000000
namespace Go.Proofs.YtmbnlccafcfbeaaGreatDoor
section
open Go.RowKit
attribute [local go_sem] Oper.semAt_some
theorem setCell_id {w:World} {b o:Nat} {v:Value} (h:w.cell? ⟨b,o,none⟩=some v):w.setCell ⟨b,o,none⟩ v=w:=by
 have hh:(w.setCell ⟨b,o,none⟩ v).heap=w.heap:=by
  refine Array.ext_getElem? fun j=>?_
  by_cases hj:j=b
  ·subst hj;unfold World.cell? at h;dsimp only at h;unfold World.setCell;dsimp only;rw[Array.getElem?_modify,if_pos rfl]
   cases ho:w.heap[j]? with
   | none=>rfl
   | some x =>
    rw[ho] at h
    cases x with
    | cells c e fz =>
     simp only[Option.isSome_none,Bool.false_eq_true,if_false,Option.map_some] at h ⊢
     congr 2
     refine Array.ext (by simp) fun i h1 h2=>?_;rw[Array.getElem_setIfInBounds]
     split
     ·rename_i e
      subst e;exact(Array.getElem?_eq_some_iff.1 h).2.symm
     ·rfl
    | _=>cases h
  ·exact Below.heap_setCell w ⟨b,o,none⟩ v j hj
 have:w.setCell ⟨b,o,none⟩ v={ w with heap:=(w.setCell ⟨b,o,none⟩ v).heap }:=rfl;rw[this,hh]
section
variable {E:Env} {N N':Nat→Prop} {t:TypeId} {b j:Nat} {pre post r:List Value} {w w':World} {s:Fs} {x y:Value}
theorem bk_set (h:Bk w b t (pre++r++post).toArray) (hj:j < r.length):Bk (w.setCell ⟨b,pre.length+j,none⟩ y) b t (pre++r.set j y++post).toArray:=by
 have:=h.set (pre.length+j) y
 have e:(pre++r++post).toArray.setIfInBounds (pre.length+j) y=(pre++r.set j y++post).toArray:=by
  rw[List.setIfInBounds_toArray,List.append_assoc,List.append_assoc,List.set_append_right _ _ (by omega),show pre.length+j - pre.length=j by omega,List.set_append_left _ _ hj]
 rw[e] at this;exact this
theorem Fm.kp {S:Nat→Prop} {rd:Rd} (h:Fm E N w (.r rd)) (hk:Kp S w w') (h1:¬ S E.gf) (h2:¬ S E.g) (h3:¬ S E.bb):Fm E N w' (.r rd) :=
 ⟨h.1.kp hk h1,h.2.1.kp hk h2 h3,h.2.2.1,Nat.lt_of_lt_of_le h.2.2.2 hk.size⟩
theorem store_place (hF:Fm E N w s) (hH:Hd E N t b pre post s.md w r) (hx:r[j]?=some x) (hy:s.md=true→y=x) :
  Fm E N (w.setCell ⟨b,pre.length+j,none⟩ y) s∧Hd E N t b pre post s.md (w.setCell ⟨b,pre.length+j,none⟩ y) (r.set j y)∧∀ N2,Fr E N2 b s.md w (w.setCell ⟨b,pre.length+j,none⟩ y):=by
 have hj:=(List.getElem?_eq_some_iff.1 hx).1
 cases s with
 | w l =>
  obtain rfl:=hy rfl;have hc:=(hH.cell hx).1;rw[setCell_id hc]
  have:r.set j y=r:=by
   refine List.ext_getElem? fun i=>?_;rw[List.getElem?_set]
   by_cases e:j=i
   ·subst e;rw[hx]
    simp[hj]
   ·simp[e]
  rw[this];exact⟨hF,hH,fun N2=>Fr.refl⟩
 | r rd =>
  have hk:Kp (fun k=>k=b) w (w.setCell ⟨b,pre.length+j,none⟩ y):=Kp.setCell (S:=fun k=>k=b) w ⟨b,pre.length+j,none⟩ _ rfl;have hB:=hH;change Hd E N t b pre post false w r at hB;unfold Hd at hB;rw[if_neg (by simp)] at hB;obtain⟨h1,n1,n2,n3⟩:=hB;refine⟨hF.kp hk (fun e=>n1 e.symm) (fun e=>n2 e.symm) (fun e=>n3 e.symm),?_,?_⟩
  ·show Hd E N t b pre post false _ _
   unfold Hd;rw[if_neg (by simp)];exact⟨bk_set h1 hj,n1,n2,n3⟩
  ·intro N2
   show Kp (FrS E N2 b false) _ _
   rw[qe5];exact hk.mono fun _ _ h=>.inr h
theorem Fm.anti (h:Fm E N' w s) (hs:∀ k,N k→N' k):Fm E N w s:=by
 cases s with
 | w l =>
  obtain⟨A,c,h1,h2,h3,h4,h5⟩:=h;exact⟨A,c,h1,h2,fun k hk hn=>h3 k hk (hs k hn),fun hn=>h4 (hs _ hn),fun k hk=>h5 k (hs k hk)⟩
 | r rd=>exact h
/-- one more block is protected -/
theorem Fm.more {q:Nat} {tq:TypeId} {cs:Array Value} (h:Fm E N w s) (hq:Bk w q tq cs) (h1:tq≠5) (h2:tq≠82):Fm E (fun k=>N k ∨ k=q) w s:=by
 cases s with
 | w l =>
  obtain⟨A,c,g1,g2,g3,g4,g5⟩:=h;refine⟨A,c,g1,g2,fun k hk hn=>hn.elim (g3 k hk) fun e=>?_,fun hn=>hn.elim g4 fun e=>?_,fun k hn=>hn.elim (g5 k) fun e=>by rw[e];exact hq.lt⟩
  ·subst e;exact row_ne g2 hq h1 hk
  ·have h3:=g1;rw[e] at h3;unfold Bk at h3 hq;rw[h3] at hq
   injection hq with hq
   injection hq with _ hq
   exact h2 hq.symm
 | r rd=>exact h
end
def ql7 (r:List Value):List Nat→List Int→List Value
 | j::js,y::ys=>ql7 (r.set j (iv y)) js ys
 | _,_=>r
theorem RdX.bkq {w:World} {g bb:Nat} {r:Rd} (h:RdX w g bb r):∃ cs,Bk w g 103 cs:=let ⟨A,c,h⟩:=h;⟨_,h.bk⟩
theorem updI_snoc:∀ (js:List Nat) (ys:List Int) (r:List Value) (j:Nat) (y:Int),js.length=ys.length→ql7 r (js++[j]) (ys++[y])=(ql7 r js ys).set j (iv y)
 | [],[],r,j,y,_=>rfl
 | a::js,b::ys,r,j,y,h=>by
  show ql7 (r.set a (iv b)) (js++[j]) (ys++[y])=_
  rw[updI_snoc js ys _ j y (by simpa using h)]
  rfl
theorem updI_get:∀ (js:List Nat) (ys:List Int) (r:List Value) (j:Nat),j ∉ js→(ql7 r js ys)[j]?=r[j]?
 | [],ys,r,j,_=>by cases ys <;> rfl
 | a::js,[],r,j,_=>rfl
 | a::js,b::ys,r,j,h=>by
  show(ql7 (r.set a (iv b)) js ys)[j]?=_
  rw[updI_get js ys _ j (fun hm=>h (List.mem_cons_of_mem _ hm)),List.getElem?_set_ne (fun e=>h (by rw[e];exact List.mem_cons_self ..))]
def qf3 (s:Fs) (xs:List Int):Nat→Fs × List Int
 | 0=>(s,[])
 | i+1=>let p:=qf3 s xs i;let q:=stp qb7 Rd.i p.1 (xs.getD i 0);(q.1,p.2++[q.2])
theorem stpN_md (s:Fs) (xs:List Int):∀ i,(qf3 s xs i).1.md=s.md
 | 0=>rfl
 | i+1=>by
  show(stp qb7 Rd.i (qf3 s xs i).1 (xs.getD i 0)).1.md=s.md
  rw[stp_md,stpN_md s xs i]
theorem stpN_len (s:Fs) (xs:List Int):∀ i,(qf3 s xs i).2.length=i
 | 0=>rfl
 | i+1=>by show((qf3 s xs i).2++[_]).length=_;rw[List.length_append,stpN_len s xs i];rfl
theorem stp_same {α:Type} {enc:α→List Int} {dec:Rd→α × Rd} {s:Fs} {x:α} (h:s.md=true):(stp enc dec s x).2=x:=by
 cases s with
 | w l=>rfl
 | r r=>cases h
theorem stpN_fit (s:Fs) (xs:List Int):∀ i,i≤xs.length→∀ n,s.fit ((qn3 xs).length+n)→(qf3 s xs i).1.fit ((qn3 (xs.drop i)).length+n)
 | 0,_,n,h=>h
 | i+1,hi,n,h=>by
  have h1:=stpN_fit s xs i (by omega) n h
  have e:(qn3 (xs.drop i)).length+n=(qb7 (xs.getD i 0)).length+((qn3 (xs.drop (i+1))).length+n):=by
   rw[List.drop_eq_getElem_cons (by omega)];unfold qn3;rw[List.flatMap_cons,List.length_append,List.getD_eq_getElem?_getD,List.getElem?_eq_getElem (by omega),Nat.add_assoc]
   rfl
  rw[e] at h1;exact h1.next
section
variable {E:Env} {N:Nat→Prop} {t:TypeId} {b o q:Nat} {pre post r:List Value} {w:World} {s:Fs} {js:List Nat} {xs:List Int}
theorem qh4 (hF:Fm E N w s) (hH:Hd E N t b pre post s.md w r) (ho:pre.length=o) (hq:Bk w q 105 (js.map fun j=>Value.pointer (some ⟨b,o+j,none⟩)).toArray) (hqb:q≠b) (hqg:s.md=false→q≠E.g) (hl:js.length=xs.length) (hn:js.Nodup) (hx:∀ i j,js[i]?=some j→r[j]?=some (iv (xs.getD i 0))) (hr:∀ x∈xs,I64 x) (hf:s.fit (qn3 xs).length) (hs:js.length≤1000) :
  Calls Tryz.prog 50 #[pq E.gf 0,.slice (some ⟨q,0,none⟩) js.length js.length] w (StP E N t b pre post (qf3 s xs xs.length).1 s.md (ql7 r js (qf3 s xs xs.length).2) w):=by
 obtain⟨K,hK⟩:∃ K,K=js.length:=⟨_,rfl⟩
 obtain⟨gf,hgf⟩:∃ gf,gf=E.gf:=⟨_,rfl⟩
 rw[← hK] at hs;rw[← hgf,← hK];have HGF:=lh hgf;have HI:=lh (And.intro hF (And.intro hH hq));have HP:=lh (And.intro ho (And.intro hqb (And.intro hqg (And.intro hl (And.intro hn (And.intro hx (And.intro hr (And.intro hf hK))))))));clear hF hH ho hq hqb hqg hl hn hx hr hf hgf hK
 go_enter Tryz.func50,Tryz.ntmps50
 go_wp2_with fail
 go_loopw [9] (fun ix wr=>∃ i:Nat,ix=iv (i:Int)∧i≤K∧Fm E N wr (qf3 s xs i).1∧Hd E N t b pre post s.md wr (ql7 r (js.take i) (qf3 s xs i).2)∧Fr E (fun k=>N k ∨ k=q) b s.md w wr) (fun ix _=>K - (intOf ix).toNat)
 case atStart=>exact⟨0,rfl,Nat.zero_le _,HI.o.1,by rw[List.take_zero];exact HI.o.2.1,Fr.refl⟩
 case round =>
  obtain⟨i,rfl,hi,hF,hH,hfr⟩:=hrel
  have hqk:Bk wr q 105 (js.map fun j=>Value.pointer (some ⟨b,o+j,none⟩)).toArray:=HI.o.2.2.kp hfr (by
   unfold FrS
   split
   ·exact fun h=>h (.inr rfl)
   ·rename_i hm
    exact fun h=>h.elim (HP.o.2.2.1 (by simpa using hm)) HP.o.2.1)
  by_cases hlt:i < K
  ·have hij:i < js.length:=by rw[← HP.o.2.2.2.2.2.2.2.2];exact hlt
   have hjs:js[i]?=some js[i]:=List.getElem?_eq_getElem hij
   have hnot:js[i] ∉ js.take i:=fun hm=>by
    obtain⟨k,hk,he⟩:=List.mem_iff_getElem.1 hm;rw[List.length_take] at hk;rw[List.getElem_take] at he;have:=(List.getElem_inj HP.o.2.2.2.2.1).1 he
    omega
   have hri:(ql7 r (js.take i) (qf3 s xs i).2)[js[i]]?=some (iv (xs.getD i 0)):=by rw[updI_get _ _ _ _ hnot];exact HP.o.2.2.2.2.2.1 i _ hjs
   have hc:=hH.cell hri;rw[HP.o.1] at hc
   obtain⟨j,hj⟩:∃ j,j=js[i]:=⟨_,rfl⟩
   obtain⟨x,hxx⟩:∃ x,x=xs.getD i 0:=⟨_,rfl⟩
   rw[← hj] at hri hc hjs hnot;rw[← hxx] at hri hc
   have hxi:I64 x:=by
    have h1:i < xs.length:=by have:=HP.o.2.2.2.1;omega
    rw[hxx,List.getD_eq_getElem?_getD,List.getElem?_eq_getElem h1];exact HP.o.2.2.2.2.2.2.1 _ (List.getElem_mem h1)
   have p0:wr.cell? ⟨q,i,none⟩=some (.pointer (some ⟨b,o+j,none⟩)):=by
    rw[hqk.cell,List.getElem?_toArray,List.getElem?_map,hjs]
    rfl
   have x0:=hc.1;have hql:=hqk.lt;have hbl:b < wr.heap.size:=qa4 hc.1
   have hfit:(qf3 s xs i).1.fit (qb7 x).length:=by
    have h1:=stpN_fit s xs i (by have:=HP.o.2.2.2.1;omega) 0 HP.o.2.2.2.2.2.2.2.1;have h2:i < xs.length:=by have:=HP.o.2.2.2.1;omega
    refine h1.mono ?_;rw[List.drop_eq_getElem_cons h2,hxx,List.getD_eq_getElem?_getD,List.getElem?_eq_getElem h2];unfold qn3;rw[List.flatMap_cons,List.length_append]
    show(qb7 xs[i]).length≤_
    omega
   obtain⟨si,hsi⟩:∃ si,si=(qf3 s xs i).1:=⟨_,rfl⟩
   obtain⟨ri,hrr⟩:∃ ri,ri=ql7 r (js.take i) (qf3 s xs i).2:=⟨_,rfl⟩
   have hmd:si.md=s.md:=by rw[hsi];exact stpN_md s xs i
   rw[← hsi] at hF hfit;rw[← hrr] at hH hri;have HX:=lh (And.intro hjs (And.intro hxx (And.intro hsi hrr)));have HHi:=lh (And.intro hF (And.intro hH (And.intro hfr (And.intro hqk (And.intro hri (And.intro hmd (And.intro hxi hfit)))))));have HFZ:=lh hc.2;clear hF hH hfr hqk hri hmd hxi hfit hjs hnot hc hj hxx hsi hrr hij
   go_upto_region 4 with fail
   clear p0
   obtain⟨w1,hw1⟩:∃ w1,w1=wr.alloc (.cells #[iv x] 2):=⟨_,rfl⟩
   obtain⟨nb,hnb⟩:∃ nb,nb=wr.heap.size:=⟨_,rfl⟩
   have hb1:bw wr w1:=by rw[hw1];exact(Below.refl _ _).alloc (Nat.le_refl _) _
   have hk1:Bk w1 nb 2 #[iv x]:=by rw[hw1,hnb];exact Bk.new _ _ _
   rw[← hw1,← hnb];have hF1:Fm E (fun k=>(N k ∨ k=q) ∨ k=nb) w1 si:=((HHi.o.1.below hb1).more (HHi.o.2.2.2.1.below hb1 hql) (by decide) (by decide)).more hk1 (by decide) (by decide)
   have hH1:Hd E (fun k=>(N k ∨ k=q) ∨ k=nb) 2 nb [] [] si.md w1 [iv x]:=by
    unfold Hd
    cases hm:si.md with
    | true =>
     rw[if_pos rfl];refine⟨.inr rfl,fun k v hv=>?_⟩;have hk0:k=0:=by have:=(List.getElem?_eq_some_iff.1 hv).1;simpa using this
     subst hk0;refine⟨?_,hk1.free _⟩;rw[hk1.cell];exact hv
    | false =>
     rw[if_neg (by simp)];refine⟨hk1,?_⟩;have h1:=HHi.o.1
     cases hsi2:si with
     | w l=>rw[hsi2] at hm;cases hm
     | r rd =>
      rw[hsi2] at h1;obtain⟨g1,g2,g3,g4⟩:=h1;obtain⟨cs,hcs⟩:=g2.bkq;have:=g1.lt;have:=hcs.lt;exact⟨by omega,by omega,by omega⟩
   have cM:=Itg_any hF1 hH1 rfl HHi.o.2.2.2.2.2.2.1 HHi.o.2.2.2.2.2.2.2
   obtain⟨⟨s2,x2⟩,hs2⟩:∃ p,p=stp qb7 Rd.i si x:=⟨_,rfl⟩
   rw[← hs2] at cM;dsimp only at cM;rw[show([]:List Value).length=0 from rfl,← HGF.o] at cM;have HS2:=lh hs2;have HB1:=lh (And.intro hb1 (And.intro hnb hk1));have p5:cl w1 b (o+j) (iv x):=(hb1.cell (p:=⟨b,o+j,none⟩) hbl).trans x0;clear hs2 hb1 hnb hk1 hF1 hH1 hw1 x0 p5
   go_wp2_with fail
   refine cM.mono ?_;rintro e w2 ⟨rfl,hF2,hH2,hfr2⟩;have hn0:=(hH2.cell (j:=0) rfl).1
   have hKp:Kp (FrS E (fun k=>N k ∨ k=q) b si.md) wr w2:=(Kp.of_below HB1.o.1).trans hfr2 fun k hk h=>by
    unfold FrS at h ⊢
    split
    ·rename_i hm
     rw[if_pos hm] at h;exact fun hn=>h (.inl hn)
    ·rename_i hm
     rw[if_neg hm] at h;exact h.elim .inl fun e=>by have:=HB1.o.2.1;omega
   have hFF:Fm E N w2 s2:=hF2.anti fun k hk=>.inl (.inl hk)
   have hHH:Hd E N t b pre post si.md w2 ri:=by
    have h0:=HHi.o.2.1;rw[← HHi.o.2.2.2.2.2.1] at h0;have h1:=h0.below HB1.o.1
    cases hm:si.md with
    | true =>
     rw[hm] at h1 hfr2;have hb:N b:=by unfold Hd at h1;rw[if_pos rfl] at h1;exact h1.1
     exact h1.kp hfr2 (by unfold FrS;rw[if_pos rfl];exact fun h=>h (.inl (.inl hb)))
    | false =>
     rw[hm] at h1 hfr2;have hB:=h1;unfold Hd at hB;rw[if_neg (by simp)] at hB
     exact h1.kp hfr2 (by
      unfold FrS;rw[if_neg (by simp)]
      exact fun h=>h.elim hB.2.2.1 fun e=>by have:=HB1.o.2.1;omega)
   have hms:s2.md=si.md:=by have:=stp_md qb7 Rd.i si x;rw[← HS2.o] at this;exact this
   have hx2:s2.md=true→x2=x:=fun h=>by
    have:=stp_same (enc:=qb7) (dec:=Rd.i) (x:=x) (s:=si) (by rw[← hms];exact h);rw[← HS2.o] at this;exact this
   have hbq:=hHH;rw[← hms] at hbq;have hst:=store_place (j:=j) (y:=iv x2) hFF hbq HHi.o.2.2.2.2.1 (fun h=>by rw[hx2 h]);rw[HP.o.1] at hst;have hcc:=hHH.cell HHi.o.2.2.2.2.1;rw[HP.o.1] at hcc;have p6:=hcc.1;have f6:=hcc.2;have HST:=lh (And.intro hst (And.intro hKp hms));have n0:cl w2 nb 0 (iv x2):=hn0;clear cM hF2 hH2 hfr2 hn0 hKp hFF hHH hms hx2 hbq hst hcc
   go_wp2_with fail
   go_roundw
   case rel =>
    have e1:qf3 s xs (i+1)=(s2,(qf3 s xs i).2++[x2]):=by
     show((stp qb7 Rd.i (qf3 s xs i).1 (xs.getD i 0)).1,(qf3 s xs i).2++[(stp qb7 Rd.i (qf3 s xs i).1 (xs.getD i 0)).2])=_
     rw[← HX.o.2.2.1,← HX.o.2.1,← HS2.o]
    have hmm:s2.md=s.md:=HST.o.2.2.trans HHi.o.2.2.2.2.2.1;refine⟨i+1,by go_num,hlt,?_,?_,?_⟩
    ·rw[e1];exact HST.o.1.1
    ·rw[e1,List.take_add_one,HX.o.1]
     show Hd E N t b pre post s.md _ (ql7 r (js.take i++[j]) ((qf3 s xs i).2++[x2]))
     rw[updI_snoc _ _ _ _ _ (by rw[List.length_take,stpN_len];have:=HP.o.2.2.2.2.2.2.2.2;omega),← HX.o.2.2.2,← hmm];exact HST.o.1.2.1
    ·have h1:=HHi.o.2.2.1;have h2:=HST.o.2.1;have h3:=HST.o.1.2.2 (fun k=>N k ∨ k=q);rw[HHi.o.2.2.2.2.2.1] at h2;rw[hmm] at h3;exact(Fr.trans h1 h2).trans h3
   case measure=>simp[intOf];omega
  ·have hiK:i=K:=by omega
   rw[hiK] at hF hH;have HE:=lh (And.intro hF (And.intro hH hfr));clear hF hH hfr hqk hiK hi
   go_wp2_with fail
   go_end0
   have e1:K=xs.length:=HP.o.2.2.2.2.2.2.2.2.trans HP.o.2.2.2.1;have e2:js.take K=js:=by rw[HP.o.2.2.2.2.2.2.2.2,List.take_length]
   have h1:=HE.o.1;have h2:=HE.o.2.1;rw[e2] at h2;rw[e1] at h1 h2;refine⟨rfl,h1,h2,Kp.mono HE.o.2.2 fun k hk h=>?_⟩;unfold FrS at h ⊢
   split
   ·rename_i hm
    rw[if_pos hm] at h;exact fun hn=>h (.inl hn)
   ·rename_i hm
    rw[if_neg hm] at h;exact h
end
section
variable {r:List Value} {j0 j1 j2 j3:Nat} {x0 x1 x2 x3 y0 y1 y2 y3:Int} {s s0 s1 s2 s3:Fs}
theorem idx2 (h0:r[j0]?=some (iv x0)) (h1:r[j1]?=some (iv x1)):∀ i j,[j0,j1][i]?=some j→r[j]?=some (iv ([x0,x1].getD i 0)):=fun i j h=>by
 match i,h with
 | 0,h=>cases h;exact h0
 | 1,h=>cases h;exact h1
theorem idx3 (h0:r[j0]?=some (iv x0)) (h1:r[j1]?=some (iv x1)) (h2:r[j2]?=some (iv x2)):∀ i j,[j0,j1,j2][i]?=some j→r[j]?=some (iv ([x0,x1,x2].getD i 0)):=fun i j h=>by
 match i,h with
 | 0,h=>cases h;exact h0
 | 1,h=>cases h;exact h1
 | 2,h=>cases h;exact h2
theorem idx4 (h0:r[j0]?=some (iv x0)) (h1:r[j1]?=some (iv x1)) (h2:r[j2]?=some (iv x2)) (h3:r[j3]?=some (iv x3)):∀ i j,[j0,j1,j2,j3][i]?=some j→r[j]?=some (iv ([x0,x1,x2,x3].getD i 0)):=fun i j h=>by
 match i,h with
 | 0,h=>cases h;exact h0
 | 1,h=>cases h;exact h1
 | 2,h=>cases h;exact h2
 | 3,h=>cases h;exact h3
theorem stpN2 (h0:(s0,y0)=stp qb7 Rd.i s x0) (h1:(s1,y1)=stp qb7 Rd.i s0 x1):qf3 s [x0,x1] 2=(s1,[y0,y1]):=by
 show((stp qb7 Rd.i (stp qb7 Rd.i s x0).1 x1).1,[(stp qb7 Rd.i s x0).2,(stp qb7 Rd.i (stp qb7 Rd.i s x0).1 x1).2])=_
 rw[← h0,← h1]
theorem stpN3 (h0:(s0,y0)=stp qb7 Rd.i s x0) (h1:(s1,y1)=stp qb7 Rd.i s0 x1) (h2:(s2,y2)=stp qb7 Rd.i s1 x2):qf3 s [x0,x1,x2] 3=(s2,[y0,y1,y2]):=by
 show((stp qb7 Rd.i (qf3 s [x0,x1] 2).1 x2).1,(qf3 s [x0,x1] 2).2++[(stp qb7 Rd.i (qf3 s [x0,x1] 2).1 x2).2])=_
 rw[stpN2 h0 h1,← h2]
 rfl
theorem stpN4 (h0:(s0,y0)=stp qb7 Rd.i s x0) (h1:(s1,y1)=stp qb7 Rd.i s0 x1) (h2:(s2,y2)=stp qb7 Rd.i s1 x2) (h3:(s3,y3)=stp qb7 Rd.i s2 x3):qf3 s [x0,x1,x2,x3] 4=(s3,[y0,y1,y2,y3]):=by
 show((stp qb7 Rd.i (qf3 s [x0,x1,x2] 3).1 x3).1,(qf3 s [x0,x1,x2] 3).2++[(stp qb7 Rd.i (qf3 s [x0,x1,x2] 3).1 x3).2])=_
 rw[stpN3 h0 h1 h2,← h3]
 rfl
theorem qb2 {α:Type} {enc:α→List Int} {dec:Rd→α × Rd} {s s':Fs} {x y:α} {m:Bool} (h:(s',y)=stp enc dec s x) (hm:s.md=m):s'.md=m:=by
 have:=stp_md enc dec s x;rw[← h] at this;exact this.trans hm
theorem qb0 {α:Type} {enc:α→List Int} {dec:Rd→α × Rd} {s s':Fs} {x y:α} {n:Nat} (h:(s',y)=stp enc dec s x) (hf:s.fit ((enc x).length+n)):s'.fit n:=by
 have:=Fs.fit.next (enc:=enc) (dec:=dec) (x:=x) hf;rw[← h] at this;exact this
end
end
section
open Go.RowKit
def CmS (D0:World→Prop) (D1:Value→World→Prop) (D2:World→Prop):List Value→World→Prop
 | []=>D0
 | [v]=>D1 v
 | _=>D2
theorem Below.drew {w0 w:World} {B:Nat} (h:Below B w0 w):Below B w0 w.drew:=⟨h.os,h.tape,h.output,h.size,h.block⟩
section
variable {E:Env} {N:Nat→Prop} {t:TypeId} {b:Nat} {pre post r:List Value} {w:World} {s:Fs} {m:Bool}
theorem Hd.lt (h:Hd E N t b pre post m w r) (hr:r≠[]):b < w.heap.size:=by
 cases r with
 | nil=>exact absurd rfl hr
 | cons v r=>exact qa4 (h.cell (j:=0) rfl).1
theorem Fm.glt (h:Fm E N w s) (hm:s.md=false):E.g < w.heap.size:=by
 cases s with
 | w l=>cases hm
 | r rd=>obtain⟨cs,hcs⟩:=h.2.1.bkq;exact hcs.lt
end
/-- a world's new block is not the reader -/
theorem qk6 {E:Env} {N:Nat→Prop} {w:World} {s:Fs} {q:Nat} (h:Fm E N w s) (hq:w.heap.size≤q):s.md=false→q≠E.g:=fun hm e=>by have:=h.glt hm;omega
end
section
open Go.RowKit
attribute [local go_sem] Oper.semAt_some
def qe3 (x:Int × Int):List Int:=qb7 x.1++qb7 x.2
def qu2 (r:Rd):(Int × Int) × Rd:=let a:=r.i;let b:=a.2.i;((a.1,b.1),b.2)
theorem stp_id {s s0_ s1_:Fs} {x:Int × Int} {y0_:Int} {y1_:Int} (h0:(s0_,y0_)=stp qb7 Rd.i s x.1) (h1:(s1_,y1_)=stp qb7 Rd.i s0_ x.2):stp qe3 qu2 s x=(s1_,(y0_,y1_)):=by
 cases s with
 | w l =>
  obtain⟨rfl,rfl⟩:=Prod.mk.inj h0;obtain⟨rfl,rfl⟩:=Prod.mk.inj h1
  simp[stp,qe3,qe3,List.append_assoc]
 | r rd =>
  obtain⟨rfl,rfl⟩:=Prod.mk.inj h0;obtain⟨rfl,rfl⟩:=Prod.mk.inj h1
  rfl
section
variable {E:Env} {N:Nat→Prop} {t:TypeId} {b o:Nat} {pre post:List Value} {w:World} {s:Fs} {x:Int × Int}
theorem id_any (hF:Fm E N w s) (hH:Hd E N t b pre post s.md w [iv x.1,iv x.2]) (ho:pre.length=o) (hx:I64 x.1∧I64 x.2) (hf:s.fit (qe3 x).length):Calls Tryz.prog 69 #[pq E.gf 0,pq b o] w (StP E N t b pre post (stp qe3 qu2 s x).1 s.md ((fun x:Int × Int=>([iv x.1,iv x.2]:List Value)) (stp qe3 qu2 s x).2) w):=by
 obtain⟨gf,hgf⟩:∃ gf,gf=E.gf:=⟨_,rfl⟩
 obtain⟨m,hm⟩:∃ m,m=s.md:=⟨_,rfl⟩
 obtain⟨⟨s0_,y0_⟩,hq0⟩:∃ p,p=stp qb7 Rd.i s x.1:=⟨_,rfl⟩
 obtain⟨⟨s1_,y1_⟩,hq1⟩:∃ p,p=stp qb7 Rd.i s0_ x.2:=⟨_,rfl⟩
 rw[stp_id hq0 hq1];have hm0:s.md=m:=hm.symm;have hm1:=qb2 hq0 hm0;have hm2:=qb2 hq1 hm1;have hf0:s.fit ((qb7 x.1).length+((qb7 x.2).length+(0))):=hf.mono (by unfold qe3;(try unfold qe3);simp only[List.length_append];omega);have hf1:s0_.fit ((qb7 x.2).length+(0)):=qb0 hq0 hf0;have hf2:s1_.fit (0):=qb0 hq1 hf1;have HM0:=lh hm0;have HFT0:=lh hf0;have HM1:=lh hm1;have HFT1:=lh hf1;have HM2:=lh hm2;have HFT2:=lh hf2;have HQ0:=lh hq0;have HQ1:=lh hq1;have HX:=lh hx;have HO:=lh ho;have HGF:=lh hgf;rw[← hgf,← hm];rw[← hm] at hH;have HBL:Hid (b < w.heap.size):=lh (hH.lt (by simp));have HF:=lh hF;have HH:=lh hH;clear hgf hm hF hH ho hx hf hq0 hq1 hm0 hf0 hm1 hf1 hm2 hf2
 go_enter Tryz.func69,Tryz.ntmps69
 refine qc9 9 (fun i=>([[],[],[1],[2],[],[4],[5],[3,6],[0,7]]:List (List Nat)).getD i []) [7,8] (fun i=>([1,0,0,0,0,0,0,0,0]:List Nat).getD i 0) (fun i=>([pq gf 0,pq b o,pq b o,pq b o,pq b o,pq b o,.pointer (some ⟨b,o+1,none⟩),bf,bf]:List Value).getD i (bf)) (CmS (Below w.heap.size w) (fun v w1=>bw w w1∧∃ q,v=.slice (some ⟨q,0,none⟩) 2 2∧Bk w1 q 105 #[pq b o,.pointer (some ⟨b,o+1,none⟩)]∧w.heap.size≤q) (fun w1=>StP E N t b pre post (qf3 s [x.1,x.2] 2).1 s.md (ql7 [iv x.1,iv x.2] [0,1] (qf3 s [x.1,x.2] 2).2) w (.returned (.tuple #[])) w1)) rfl (by kernel_rfl) (by rfl) (by kernel_rfl) ?_ ?_ ?_ ?_
 ·exact(Below.refl _ _).drew
 ·intro i hi hn o ho k vs w1 hk hlow hS hvs;rcases (show i=0 ∨ i=1 ∨ i=2 ∨ i=3 ∨ i=4 ∨ i=5 ∨ i=6 ∨ i=7 ∨ i=8 by omega) with rfl | rfl | rfl | rfl | rfl | rfl | rfl | rfl | rfl <;> cases ho
  ·clear hS hvs hlow hk hn;change Sem.run _ (execOp (Act.eval (frm _ _ _ [])) _) _=_;simp only[frm];go_simp
  ·clear hS hvs hlow hk hn;change Sem.run _ (execOp (Act.eval (frm _ _ _ [])) _) _=_;simp only[frm];go_simp
  ·have h1:vs 1=pq b o:=hvs 1 (by decide) (by decide);clear hS hvs hlow hk hn;change Sem.run _ (execOp (Act.eval (Act.put (frm _ _ _ []) (some 5) (vs 1))) _) _=_;simp only[frm,h1];go_simp
  ·have h2:vs 2=pq b o:=hvs 2 (by decide) (by decide);clear hS hvs hlow hk hn;change Sem.run _ (execOp (Act.eval (Act.put (frm _ _ _ []) (some 6) (vs 2))) _) _=_;simp only[frm,h2];go_simp
  ·clear hS hvs hlow hk hn;change Sem.run _ (execOp (Act.eval (frm _ _ _ [])) _) _=_;simp only[frm];go_simp
  ·have h4:vs 4=pq b o:=hvs 4 (by decide) (by decide);clear hS hvs hlow hk hn;change Sem.run _ (execOp (Act.eval (Act.put (frm _ _ _ []) (some 8) (vs 4))) _) _=_;simp only[frm,h4];go_simp
  ·have h5:vs 5=pq b o:=hvs 5 (by decide) (by decide);clear hS hvs hlow hk hn;change Sem.run _ (execOp (Act.eval (Act.put (frm _ _ _ []) (some 9) (vs 5))) _) _=_;simp only[frm,h5];go_simp
  ·exact absurd (by decide) hn
  ·exact absurd (by decide) hn
 ·intro p hp o ho vs w1 hS hvs;rcases (show p=0 ∨ p=1 by change p < 2 at hp;omega) with rfl | rfl <;> cases ho
  ·replace hS:bw w w1:=hS;have h3:vs 3=pq b o:=hvs 3 (by decide) (by decide);have h6:vs 6=.pointer (some ⟨b,o+1,none⟩):=hvs 6 (by decide) (by decide)
   show Made _ (fun v w1=>bw w w1∧∃ q,v=.slice (some ⟨q,0,none⟩) 2 2∧Bk w1 q 105 #[pq b o,.pointer (some ⟨b,o+1,none⟩)]∧w.heap.size≤q) _
   change Made _ _ (Sem.run _ (execOp (Act.eval (Act.put (Act.put (frm _ _ _ []) (some 10) (vs 6)) (some 7) (vs 3))) _) _);simp only[frm,h3,h6];have HB1:=lh hS;clear hS hvs h3 h6;go_simp;exact qa5 ⟨HB1.o.alloc HB1.o.size _,_,rfl,Bk.new _ _ _,HB1.o.size⟩
  ·replace hS:(fun v w1=>bw w w1∧∃ q,v=.slice (some ⟨q,0,none⟩) 2 2∧Bk w1 q 105 #[pq b o,.pointer (some ⟨b,o+1,none⟩)]∧w.heap.size≤q) (vs 7) w1:=hS;have h0:vs 0=pq gf 0:=hvs 0 (by decide) (by decide)
   show Made _ (fun _=>fun w1=>StP E N t b pre post (qf3 s [x.1,x.2] 2).1 s.md (ql7 [iv x.1,iv x.2] [0,1] (qf3 s [x.1,x.2] 2).2) w (.returned (.tuple #[])) w1) _
   change Made _ _ (Sem.run _ (execOp (Act.eval (Act.put (Act.put (frm _ _ _ []) (some 11) (vs 7)) (some 4) (vs 0))) _) _);obtain⟨hb1,q,hq,hbk,hqs⟩:=hS;simp only[frm,h0,hq];have cM:=qh4 (pre:=pre) (post:=post) (js:=[0,1]) (xs:=[x.1,x.2]) (HF.o.below hb1) ((show Hd E N t b pre post s.md w _ by rw[HM0.o];exact HH.o).below hb1) HO.o (show Bk w1 q 105 ([0,1].map fun j=>Value.pointer (some ⟨b,o+j,none⟩)).toArray from hbk) (by have:=HBL.o;omega) (qk6 HF.o (by omega)) rfl (by decide) (idx2 rfl rfl) (by simp only[List.mem_cons,List.not_mem_nil,or_false,forall_eq_or_imp,forall_eq];exact HX.o) (HFT0.o.mono (by unfold qn3;simp only[List.flatMap_cons,List.flatMap_nil,List.length_append,List.length_nil];omega)) (by decide);rw[← HGF.o] at cM;have HB1:=lh hb1;clear hvs hbk hq hqs hb1 h0;go_simp;exact qg6 (cM.mono fun e w2 ⟨he,h1,h2,h3⟩=>⟨_,he,rfl,h1,h2,(Fr.ofBelow HB1.o).trans h3⟩)
 ·intro vs w5 hS hvs;replace hS:(fun w1=>StP E N t b pre post (qf3 s [x.1,x.2] 2).1 s.md (ql7 [iv x.1,iv x.2] [0,1] (qf3 s [x.1,x.2] 2).2) w (.returned (.tuple #[])) w1) w5:=hS;change wpList _ _ _ [] (Act.put (Act.put (Act.put (Act.put (Act.put (Act.put (Act.put (Act.put (Act.put (frm _ _ _ []) (some 12) (vs 8)) (some 11) (vs 7)) (some 10) (vs 6)) (some 9) (vs 5)) (some 8) (vs 4)) (some 7) (vs 3)) (some 6) (vs 2)) (some 5) (vs 1)) (some 4) (vs 0)) _;simp only[frm];clear hvs;generalize vs 0=z0;generalize vs 1=z1;generalize vs 2=z2;generalize vs 3=z3;generalize vs 4=z4;generalize vs 5=z5;generalize vs 6=z6;generalize vs 7=z7;generalize vs 8=z8;obtain⟨_,hF5,hH5,hfr5⟩:=hS;rw[stpN2 HQ0.o HQ1.o] at hF5 hH5;rw[HM0.o] at hH5 hfr5;replace hH5:Hd E N t b pre post m w5 [iv y0_,iv y1_]:=hH5;replace hF5:Fm E N w5 s1_:=hF5;have HF0_:=lh hF5;have HH0_:=lh hH5;have HFR0_:=lh hfr5;clear hF5 hH5 hfr5
  go_wp2_with fail
  go_end0
  exact⟨rfl,HF0_.o,HH0_.o,HFR0_.o⟩
end
theorem stp_ref {s s0_ s1_ s2_ s3_ s4_ s5_ s6_:Fs} {x:Rf} {y0_:Int} {y1_:Int} {y2_:Int} {y3_:Int} {y4_:Int} {y5_:Int × Int} {y6_:Bool} (h0:(s0_,y0_)=stp qb7 Rd.i s x.kind) (h1:(s1_,y1_)=stp qb7 Rd.i s0_ x.owner) (h2:(s2_,y2_)=stp qb7 Rd.i s1_ x.cls) (h3:(s3_,y3_)=stp qb7 Rd.i s2_ x.int) (h4:(s4_,y4_)=stp qd8 Rd.u s3_ x.number) (h5:(s5_,y5_)=stp qe3 qu2 s4_ (x.idm,x.ids)) (h6:(s6_,y6_)=stp qk0 Rd.bool s5_ x.weak):stp qc0 qd3 s x=(s6_,(⟨y0_,y3_,y1_,y4_,y5_.1,y5_.2,y2_,y6_⟩:Rf)):=by
 cases s with
 | w l =>
  obtain⟨rfl,rfl⟩:=Prod.mk.inj h0;obtain⟨rfl,rfl⟩:=Prod.mk.inj h1;obtain⟨rfl,rfl⟩:=Prod.mk.inj h2;obtain⟨rfl,rfl⟩:=Prod.mk.inj h3;obtain⟨rfl,rfl⟩:=Prod.mk.inj h4;obtain⟨rfl,rfl⟩:=Prod.mk.inj h5;obtain⟨rfl,rfl⟩:=Prod.mk.inj h6
  simp[stp,qc0,qe3,List.append_assoc]
 | r rd =>
  obtain⟨rfl,rfl⟩:=Prod.mk.inj h0;obtain⟨rfl,rfl⟩:=Prod.mk.inj h1;obtain⟨rfl,rfl⟩:=Prod.mk.inj h2;obtain⟨rfl,rfl⟩:=Prod.mk.inj h3;obtain⟨rfl,rfl⟩:=Prod.mk.inj h4;obtain⟨rfl,rfl⟩:=Prod.mk.inj h5;obtain⟨rfl,rfl⟩:=Prod.mk.inj h6
  rfl
section
variable {E:Env} {N:Nat→Prop} {t:TypeId} {b o:Nat} {pre post:List Value} {w:World} {s:Fs} {x:Rf}
theorem ref_any (hF:Fm E N w s) (hH:Hd E N t b pre post s.md w [iv x.kind,iv x.int,iv x.owner,uv x.number,iv x.idm,iv x.ids,iv x.cls,.bool x.weak]) (ho:pre.length=o) (hx:rfP x) (hf:s.fit (qc0 x).length):Calls Tryz.prog 42 #[pq E.gf 0,pq b o] w (StP E N t b pre post (stp qc0 qd3 s x).1 s.md ((fun x:Rf=>([iv x.kind,iv x.int,iv x.owner,uv x.number,iv x.idm,iv x.ids,iv x.cls,.bool x.weak]:List Value)) (stp qc0 qd3 s x).2) w):=by
 obtain⟨gf,hgf⟩:∃ gf,gf=E.gf:=⟨_,rfl⟩
 obtain⟨m,hm⟩:∃ m,m=s.md:=⟨_,rfl⟩
 obtain⟨⟨s0_,y0_⟩,hq0⟩:∃ p,p=stp qb7 Rd.i s x.kind:=⟨_,rfl⟩
 obtain⟨⟨s1_,y1_⟩,hq1⟩:∃ p,p=stp qb7 Rd.i s0_ x.owner:=⟨_,rfl⟩
 obtain⟨⟨s2_,y2_⟩,hq2⟩:∃ p,p=stp qb7 Rd.i s1_ x.cls:=⟨_,rfl⟩
 obtain⟨⟨s3_,y3_⟩,hq3⟩:∃ p,p=stp qb7 Rd.i s2_ x.int:=⟨_,rfl⟩
 obtain⟨⟨s4_,y4_⟩,hq4⟩:∃ p,p=stp qd8 Rd.u s3_ x.number:=⟨_,rfl⟩
 obtain⟨⟨s5_,y5_⟩,hq5⟩:∃ p,p=stp qe3 qu2 s4_ (x.idm,x.ids):=⟨_,rfl⟩
 obtain⟨⟨s6_,y6_⟩,hq6⟩:∃ p,p=stp qk0 Rd.bool s5_ x.weak:=⟨_,rfl⟩
 rw[stp_ref hq0 hq1 hq2 hq3 hq4 hq5 hq6];have hm0:s.md=m:=hm.symm;have hm1:=qb2 hq0 hm0;have hm2:=qb2 hq1 hm1;have hm3:=qb2 hq2 hm2;have hm4:=qb2 hq3 hm3;have hm5:=qb2 hq4 hm4;have hm6:=qb2 hq5 hm5;have hm7:=qb2 hq6 hm6;have hf0:s.fit ((qb7 x.kind).length+((qb7 x.owner).length+((qb7 x.cls).length+((qb7 x.int).length+((qd8 x.number).length+((qe3 (x.idm,x.ids)).length+((qk0 x.weak).length+(0)))))))):=hf.mono (by unfold qc0;(try unfold qe3);simp only[List.length_append];omega);have hf1:s0_.fit ((qb7 x.owner).length+((qb7 x.cls).length+((qb7 x.int).length+((qd8 x.number).length+((qe3 (x.idm,x.ids)).length+((qk0 x.weak).length+(0))))))):=qb0 hq0 hf0;have hf2:s1_.fit ((qb7 x.cls).length+((qb7 x.int).length+((qd8 x.number).length+((qe3 (x.idm,x.ids)).length+((qk0 x.weak).length+(0)))))):=qb0 hq1 hf1;have hf3:s2_.fit ((qb7 x.int).length+((qd8 x.number).length+((qe3 (x.idm,x.ids)).length+((qk0 x.weak).length+(0))))):=qb0 hq2 hf2;have hf4:s3_.fit ((qd8 x.number).length+((qe3 (x.idm,x.ids)).length+((qk0 x.weak).length+(0)))):=qb0 hq3 hf3;have hf5:s4_.fit ((qe3 (x.idm,x.ids)).length+((qk0 x.weak).length+(0))):=qb0 hq4 hf4;have hf6:s5_.fit ((qk0 x.weak).length+(0)):=qb0 hq5 hf5;have hf7:s6_.fit (0):=qb0 hq6 hf6;have HM0:=lh hm0;have HFT0:=lh hf0;have HM1:=lh hm1;have HFT1:=lh hf1;have HM2:=lh hm2;have HFT2:=lh hf2;have HM3:=lh hm3;have HFT3:=lh hf3;have HM4:=lh hm4;have HFT4:=lh hf4;have HM5:=lh hm5;have HFT5:=lh hf5;have HM6:=lh hm6;have HFT6:=lh hf6;have HM7:=lh hm7;have HFT7:=lh hf7;have HQ0:=lh hq0;have HQ1:=lh hq1;have HQ2:=lh hq2;have HQ3:=lh hq3;have HQ4:=lh hq4;have HQ5:=lh hq5;have HQ6:=lh hq6;have HX:=lh hx;have HO:=lh ho;have HGF:=lh hgf;rw[← hgf,← hm];rw[← hm] at hH;have HBL:Hid (b < w.heap.size):=lh (hH.lt (by simp));have HF:=lh hF;have HH:=lh hH;clear hgf hm hF hH ho hx hf hq0 hq1 hq2 hq3 hq4 hq5 hq6 hm0 hf0 hm1 hf1 hm2 hf2 hm3 hf3 hm4 hf4 hm5 hf5 hm6 hf6 hm7 hf7
 go_enter Tryz.func42,Tryz.ntmps42
 go_wp2_with fail
 refine qc9 12 (fun i=>([[],[],[1],[2],[],[4],[5],[],[7],[8],[3,6,9],[0,10]]:List (List Nat)).getD i []) [10,11] (fun i=>([1,0,0,0,0,0,0,0,0,0,0,0]:List Nat).getD i 0) (fun i=>([pq gf 0,pq b o,pq b o,pq b o,pq b o,pq b o,.pointer (some ⟨b,o+2,none⟩),pq b o,pq b o,.pointer (some ⟨b,o+6,none⟩),bf,bf]:List Value).getD i (bf)) (CmS (Below w.heap.size w) (fun v w1=>bw w w1∧∃ q,v=.slice (some ⟨q,0,none⟩) 3 3∧Bk w1 q 105 #[pq b o,.pointer (some ⟨b,o+2,none⟩),.pointer (some ⟨b,o+6,none⟩)]∧w.heap.size≤q) (fun w1=>StP E N t b pre post (qf3 s [x.kind,x.owner,x.cls] 3).1 s.md (ql7 [iv x.kind,iv x.int,iv x.owner,uv x.number,iv x.idm,iv x.ids,iv x.cls,.bool x.weak] [0,2,6] (qf3 s [x.kind,x.owner,x.cls] 3).2) w (.returned (.tuple #[])) w1)) rfl (by kernel_rfl) (by rfl) (by kernel_rfl) ?_ ?_ ?_ ?_
 ·exact(Below.refl _ _).drew
 ·intro i hi hn o ho k vs w1 hk hlow hS hvs;rcases (show i=0 ∨ i=1 ∨ i=2 ∨ i=3 ∨ i=4 ∨ i=5 ∨ i=6 ∨ i=7 ∨ i=8 ∨ i=9 ∨ i=10 ∨ i=11 by omega) with rfl | rfl | rfl | rfl | rfl | rfl | rfl | rfl | rfl | rfl | rfl | rfl <;> cases ho
  ·clear hS hvs hlow hk hn;change Sem.run _ (execOp (Act.eval (frm _ _ _ [])) _) _=_;simp only[frm];go_simp
  ·clear hS hvs hlow hk hn;change Sem.run _ (execOp (Act.eval (frm _ _ _ [])) _) _=_;simp only[frm];go_simp
  ·have h1:vs 1=pq b o:=hvs 1 (by decide) (by decide);clear hS hvs hlow hk hn;change Sem.run _ (execOp (Act.eval (Act.put (frm _ _ _ []) (some 5) (vs 1))) _) _=_;simp only[frm,h1];go_simp
  ·have h2:vs 2=pq b o:=hvs 2 (by decide) (by decide);clear hS hvs hlow hk hn;change Sem.run _ (execOp (Act.eval (Act.put (frm _ _ _ []) (some 6) (vs 2))) _) _=_;simp only[frm,h2];go_simp
  ·clear hS hvs hlow hk hn;change Sem.run _ (execOp (Act.eval (frm _ _ _ [])) _) _=_;simp only[frm];go_simp
  ·have h4:vs 4=pq b o:=hvs 4 (by decide) (by decide);clear hS hvs hlow hk hn;change Sem.run _ (execOp (Act.eval (Act.put (frm _ _ _ []) (some 8) (vs 4))) _) _=_;simp only[frm,h4];go_simp
  ·have h5:vs 5=pq b o:=hvs 5 (by decide) (by decide);clear hS hvs hlow hk hn;change Sem.run _ (execOp (Act.eval (Act.put (frm _ _ _ []) (some 9) (vs 5))) _) _=_;simp only[frm,h5];go_simp
  ·clear hS hvs hlow hk hn;change Sem.run _ (execOp (Act.eval (frm _ _ _ [])) _) _=_;simp only[frm];go_simp
  ·have h7:vs 7=pq b o:=hvs 7 (by decide) (by decide);clear hS hvs hlow hk hn;change Sem.run _ (execOp (Act.eval (Act.put (frm _ _ _ []) (some 11) (vs 7))) _) _=_;simp only[frm,h7];go_simp
  ·have h8:vs 8=pq b o:=hvs 8 (by decide) (by decide);clear hS hvs hlow hk hn;change Sem.run _ (execOp (Act.eval (Act.put (frm _ _ _ []) (some 12) (vs 8))) _) _=_;simp only[frm,h8];go_simp
  ·exact absurd (by decide) hn
  ·exact absurd (by decide) hn
 ·intro p hp o ho vs w1 hS hvs;rcases (show p=0 ∨ p=1 by change p < 2 at hp;omega) with rfl | rfl <;> cases ho
  ·replace hS:bw w w1:=hS;have h3:vs 3=pq b o:=hvs 3 (by decide) (by decide);have h6:vs 6=.pointer (some ⟨b,o+2,none⟩):=hvs 6 (by decide) (by decide);have h9:vs 9=.pointer (some ⟨b,o+6,none⟩):=hvs 9 (by decide) (by decide)
   show Made _ (fun v w1=>bw w w1∧∃ q,v=.slice (some ⟨q,0,none⟩) 3 3∧Bk w1 q 105 #[pq b o,.pointer (some ⟨b,o+2,none⟩),.pointer (some ⟨b,o+6,none⟩)]∧w.heap.size≤q) _
   change Made _ _ (Sem.run _ (execOp (Act.eval (Act.put (Act.put (Act.put (frm _ _ _ []) (some 13) (vs 9)) (some 10) (vs 6)) (some 7) (vs 3))) _) _);simp only[frm,h3,h6,h9];have HB1:=lh hS;clear hS hvs h3 h6 h9;go_simp;exact qa5 ⟨HB1.o.alloc HB1.o.size _,_,rfl,Bk.new _ _ _,HB1.o.size⟩
  ·replace hS:(fun v w1=>bw w w1∧∃ q,v=.slice (some ⟨q,0,none⟩) 3 3∧Bk w1 q 105 #[pq b o,.pointer (some ⟨b,o+2,none⟩),.pointer (some ⟨b,o+6,none⟩)]∧w.heap.size≤q) (vs 10) w1:=hS;have h0:vs 0=pq gf 0:=hvs 0 (by decide) (by decide)
   show Made _ (fun _=>fun w1=>StP E N t b pre post (qf3 s [x.kind,x.owner,x.cls] 3).1 s.md (ql7 [iv x.kind,iv x.int,iv x.owner,uv x.number,iv x.idm,iv x.ids,iv x.cls,.bool x.weak] [0,2,6] (qf3 s [x.kind,x.owner,x.cls] 3).2) w (.returned (.tuple #[])) w1) _
   change Made _ _ (Sem.run _ (execOp (Act.eval (Act.put (Act.put (frm _ _ _ []) (some 14) (vs 10)) (some 4) (vs 0))) _) _);obtain⟨hb1,q,hq,hbk,hqs⟩:=hS;simp only[frm,h0,hq];have cM:=qh4 (pre:=pre) (post:=post) (js:=[0,2,6]) (xs:=[x.kind,x.owner,x.cls]) (HF.o.below hb1) ((show Hd E N t b pre post s.md w _ by rw[HM0.o];exact HH.o).below hb1) HO.o (show Bk w1 q 105 ([0,2,6].map fun j=>Value.pointer (some ⟨b,o+j,none⟩)).toArray from hbk) (by have:=HBL.o;omega) (qk6 HF.o (by omega)) rfl (by decide) (idx3 rfl rfl rfl) (by simp only[List.mem_cons,List.not_mem_nil,or_false,forall_eq_or_imp,forall_eq];exact⟨HX.o.1,HX.o.2.1,HX.o.2.2.1⟩) (HFT0.o.mono (by unfold qn3;simp only[List.flatMap_cons,List.flatMap_nil,List.length_append,List.length_nil];omega)) (by decide);rw[← HGF.o] at cM;have HB1:=lh hb1;clear hvs hbk hq hqs hb1 h0;go_simp;exact qg6 (cM.mono fun e w2 ⟨he,h1,h2,h3⟩=>⟨_,he,rfl,h1,h2,(Fr.ofBelow HB1.o).trans h3⟩)
 ·intro vs w5 hS hvs;replace hS:(fun w1=>StP E N t b pre post (qf3 s [x.kind,x.owner,x.cls] 3).1 s.md (ql7 [iv x.kind,iv x.int,iv x.owner,uv x.number,iv x.idm,iv x.ids,iv x.cls,.bool x.weak] [0,2,6] (qf3 s [x.kind,x.owner,x.cls] 3).2) w (.returned (.tuple #[])) w1) w5:=hS;change wpList _ _ _ [] (Act.put (Act.put (Act.put (Act.put (Act.put (Act.put (Act.put (Act.put (Act.put (Act.put (Act.put (Act.put (frm _ _ _ []) (some 15) (vs 11)) (some 14) (vs 10)) (some 13) (vs 9)) (some 12) (vs 8)) (some 11) (vs 7)) (some 10) (vs 6)) (some 9) (vs 5)) (some 8) (vs 4)) (some 7) (vs 3)) (some 6) (vs 2)) (some 5) (vs 1)) (some 4) (vs 0)) _;simp only[frm];clear hvs;generalize vs 0=z0;generalize vs 1=z1;generalize vs 2=z2;generalize vs 3=z3;generalize vs 4=z4;generalize vs 5=z5;generalize vs 6=z6;generalize vs 7=z7;generalize vs 8=z8;generalize vs 9=z9;generalize vs 10=z10;generalize vs 11=z11;obtain⟨_,hF5,hH5,hfr5⟩:=hS;rw[stpN3 HQ0.o HQ1.o HQ2.o] at hF5 hH5;rw[HM0.o] at hH5 hfr5;replace hH5:Hd E N t b pre post m w5 [iv y0_,iv x.int,iv y1_,uv x.number,iv x.idm,iv x.ids,iv y2_,.bool x.weak]:=hH5;replace hF5:Fm E N w5 s2_:=hF5;have HF0_:=lh hF5;have HH0_:=lh hH5;have HFR0_:=lh hfr5;clear hF5 hH5 hfr5;have cM1:=Itg_any (x:=x.int) (pre:=pre++[iv y0_]) (post:=[iv y1_,uv x.number,iv x.idm,iv x.ids,iv y2_,.bool x.weak]++post) (o:=o+1) HF0_.o (show Hd E N t b (pre++[iv y0_]) ([iv y1_,uv x.number,iv x.idm,iv x.ids,iv y2_,.bool x.weak]++post) s2_.md w5 [iv x.int] by rw[HM3.o];exact Hd.sub (r1:=[iv y0_]) (r2:=[iv x.int]) (r3:=[iv y1_,uv x.number,iv x.idm,iv x.ids,iv y2_,.bool x.weak]) HH0_.o) (by rw[List.length_append,HO.o];rfl) (HX.o.2.2.2.1) (HFT3.o.mono (by omega));rw[← HQ3.o,HM3.o,← HGF.o] at cM1
  try dsimp only at cM1
  go_wp2_with fail
  refine cM1.mono ?_;rintro e u1_ ⟨rfl,hF5,hH5,hfr5⟩;have hHH:Hd E N t b pre post m u1_ [iv y0_,iv y3_,iv y1_,uv x.number,iv x.idm,iv x.ids,iv y2_,.bool x.weak]:=Hd.back (r1:=[iv y0_]) (r2:=[iv x.int]) (r3:=[iv y1_,uv x.number,iv x.idm,iv x.ids,iv y2_,.bool x.weak]) (r2':=[iv y3_]) HH0_.o hfr5 rfl hH5;have HF1_:=lh hF5;have HH1_:=lh hHH;have HFR1_:=lh (HFR0_.o.trans hfr5);clear cM1 hF5 hH5 hfr5 hHH;have cM2:=qp7 (x:=x.number) (pre:=pre++[iv y0_,iv y3_,iv y1_]) (post:=[iv x.idm,iv x.ids,iv y2_,.bool x.weak]++post) (o:=o+3) HF1_.o (show Hd E N t b (pre++[iv y0_,iv y3_,iv y1_]) ([iv x.idm,iv x.ids,iv y2_,.bool x.weak]++post) s3_.md u1_ [uv x.number] by rw[HM4.o];exact Hd.sub (r1:=[iv y0_,iv y3_,iv y1_]) (r2:=[uv x.number]) (r3:=[iv x.idm,iv x.ids,iv y2_,.bool x.weak]) HH1_.o) (by rw[List.length_append,HO.o];rfl) (HX.o.2.2.2.2.1) (HFT4.o.mono (by omega));rw[← HQ4.o,HM4.o,← HGF.o] at cM2
  try dsimp only at cM2
  go_wp2_with fail
  refine cM2.mono ?_;rintro e u2_ ⟨rfl,hF5,hH5,hfr5⟩;have hHH:Hd E N t b pre post m u2_ [iv y0_,iv y3_,iv y1_,uv y4_,iv x.idm,iv x.ids,iv y2_,.bool x.weak]:=Hd.back (r1:=[iv y0_,iv y3_,iv y1_]) (r2:=[uv x.number]) (r3:=[iv x.idm,iv x.ids,iv y2_,.bool x.weak]) (r2':=[uv y4_]) HH1_.o hfr5 rfl hH5;have HF2_:=lh hF5;have HH2_:=lh hHH;have HFR2_:=lh (HFR1_.o.trans hfr5);clear cM2 hF5 hH5 hfr5 hHH;have cM3:=id_any (x:=(x.idm,x.ids)) (pre:=pre++[iv y0_,iv y3_,iv y1_,uv y4_]) (post:=[iv y2_,.bool x.weak]++post) (o:=o+4) HF2_.o (show Hd E N t b (pre++[iv y0_,iv y3_,iv y1_,uv y4_]) ([iv y2_,.bool x.weak]++post) s4_.md u2_ [iv x.idm,iv x.ids] by rw[HM5.o];exact Hd.sub (r1:=[iv y0_,iv y3_,iv y1_,uv y4_]) (r2:=[iv x.idm,iv x.ids]) (r3:=[iv y2_,.bool x.weak]) HH2_.o) (by rw[List.length_append,HO.o];rfl) (⟨HX.o.2.2.2.2.2.1,HX.o.2.2.2.2.2.2⟩) (HFT5.o.mono (by omega));rw[← HQ5.o,HM5.o,← HGF.o] at cM3
  try dsimp only at cM3
  go_wp2_with fail
  refine cM3.mono ?_;rintro e u3_ ⟨rfl,hF5,hH5,hfr5⟩;have hHH:Hd E N t b pre post m u3_ [iv y0_,iv y3_,iv y1_,uv y4_,iv y5_.1,iv y5_.2,iv y2_,.bool x.weak]:=Hd.back (r1:=[iv y0_,iv y3_,iv y1_,uv y4_]) (r2:=[iv x.idm,iv x.ids]) (r3:=[iv y2_,.bool x.weak]) (r2':=[iv y5_.1,iv y5_.2]) HH2_.o hfr5 rfl hH5;have HF3_:=lh hF5;have HH3_:=lh hHH;have HFR3_:=lh (HFR2_.o.trans hfr5);clear cM3 hF5 hH5 hfr5 hHH;have cM4:=Flg_any (x:=x.weak) (pre:=pre++[iv y0_,iv y3_,iv y1_,uv y4_,iv y5_.1,iv y5_.2,iv y2_]) (post:=[]++post) (o:=o+7) HF3_.o (show Hd E N t b (pre++[iv y0_,iv y3_,iv y1_,uv y4_,iv y5_.1,iv y5_.2,iv y2_]) ([]++post) s5_.md u3_ [.bool x.weak] by rw[HM6.o];exact Hd.sub (r1:=[iv y0_,iv y3_,iv y1_,uv y4_,iv y5_.1,iv y5_.2,iv y2_]) (r2:=[.bool x.weak]) (r3:=[]) HH3_.o) (by rw[List.length_append,HO.o];rfl) (trivial) (HFT6.o.mono (by omega));rw[← HQ6.o,HM6.o,← HGF.o] at cM4
  try dsimp only at cM4
  go_wp2_with fail
  refine cM4.mono ?_;rintro e u4_ ⟨rfl,hF5,hH5,hfr5⟩;have hHH:Hd E N t b pre post m u4_ [iv y0_,iv y3_,iv y1_,uv y4_,iv y5_.1,iv y5_.2,iv y2_,.bool y6_]:=Hd.back (r1:=[iv y0_,iv y3_,iv y1_,uv y4_,iv y5_.1,iv y5_.2,iv y2_]) (r2:=[.bool x.weak]) (r3:=[]) (r2':=[.bool y6_]) HH3_.o hfr5 rfl hH5;have HF4_:=lh hF5;have HH4_:=lh hHH;have HFR4_:=lh (HFR3_.o.trans hfr5);clear cM4 hF5 hH5 hfr5 hHH
  go_wp2_with fail
  go_end0
  exact⟨rfl,HF4_.o,HH4_.o,HFR4_.o⟩
end
theorem stp_inset {s s0_ s1_ s2_:Fs} {x:In} {y0_:Int} {y1_:Int} {y2_:Int} (h0:(s0_,y0_)=stp qb7 Rd.i s x.client) (h1:(s1_,y1_)=stp qb7 Rd.i s0_ x.out) (h2:(s2_,y2_)=stp qd8 Rd.u s1_ x.number):stp qe0 qf9 s x=(s2_,(⟨y0_,y2_,y1_⟩:In)):=by
 cases s with
 | w l =>
  obtain⟨rfl,rfl⟩:=Prod.mk.inj h0;obtain⟨rfl,rfl⟩:=Prod.mk.inj h1;obtain⟨rfl,rfl⟩:=Prod.mk.inj h2
  simp[stp,qe0,qe3,List.append_assoc]
 | r rd =>
  obtain⟨rfl,rfl⟩:=Prod.mk.inj h0;obtain⟨rfl,rfl⟩:=Prod.mk.inj h1;obtain⟨rfl,rfl⟩:=Prod.mk.inj h2
  rfl
section
variable {E:Env} {N:Nat→Prop} {t:TypeId} {b o:Nat} {pre post:List Value} {w:World} {s:Fs} {x:In}
theorem inset_any (hF:Fm E N w s) (hH:Hd E N t b pre post s.md w [iv x.client,uv x.number,iv x.out]) (ho:pre.length=o) (hx:inP x) (hf:s.fit (qe0 x).length):Calls Tryz.prog 119 #[pq E.gf 0,pq b o] w (StP E N t b pre post (stp qe0 qf9 s x).1 s.md ((fun x:In=>([iv x.client,uv x.number,iv x.out]:List Value)) (stp qe0 qf9 s x).2) w):=by
 obtain⟨gf,hgf⟩:∃ gf,gf=E.gf:=⟨_,rfl⟩
 obtain⟨m,hm⟩:∃ m,m=s.md:=⟨_,rfl⟩
 obtain⟨⟨s0_,y0_⟩,hq0⟩:∃ p,p=stp qb7 Rd.i s x.client:=⟨_,rfl⟩
 obtain⟨⟨s1_,y1_⟩,hq1⟩:∃ p,p=stp qb7 Rd.i s0_ x.out:=⟨_,rfl⟩
 obtain⟨⟨s2_,y2_⟩,hq2⟩:∃ p,p=stp qd8 Rd.u s1_ x.number:=⟨_,rfl⟩
 rw[stp_inset hq0 hq1 hq2];have hm0:s.md=m:=hm.symm;have hm1:=qb2 hq0 hm0;have hm2:=qb2 hq1 hm1;have hm3:=qb2 hq2 hm2;have hf0:s.fit ((qb7 x.client).length+((qb7 x.out).length+((qd8 x.number).length+(0)))):=hf.mono (by unfold qe0;(try unfold qe3);simp only[List.length_append];omega);have hf1:s0_.fit ((qb7 x.out).length+((qd8 x.number).length+(0))):=qb0 hq0 hf0;have hf2:s1_.fit ((qd8 x.number).length+(0)):=qb0 hq1 hf1;have hf3:s2_.fit (0):=qb0 hq2 hf2;have HM0:=lh hm0;have HFT0:=lh hf0;have HM1:=lh hm1;have HFT1:=lh hf1;have HM2:=lh hm2;have HFT2:=lh hf2;have HM3:=lh hm3;have HFT3:=lh hf3;have HQ0:=lh hq0;have HQ1:=lh hq1;have HQ2:=lh hq2;have HX:=lh hx;have HO:=lh ho;have HGF:=lh hgf;rw[← hgf,← hm];rw[← hm] at hH;have HBL:Hid (b < w.heap.size):=lh (hH.lt (by simp));have HF:=lh hF;have HH:=lh hH;clear hgf hm hF hH ho hx hf hq0 hq1 hq2 hm0 hf0 hm1 hf1 hm2 hf2 hm3 hf3
 go_enter Tryz.func119,Tryz.ntmps119
 go_wp2_with fail
 refine qc9 9 (fun i=>([[],[],[1],[2],[],[4],[5],[3,6],[0,7]]:List (List Nat)).getD i []) [7,8] (fun i=>([1,0,0,0,0,0,0,0,0]:List Nat).getD i 0) (fun i=>([pq gf 0,pq b o,pq b o,pq b o,pq b o,pq b o,.pointer (some ⟨b,o+2,none⟩),bf,bf]:List Value).getD i (bf)) (CmS (Below w.heap.size w) (fun v w1=>bw w w1∧∃ q,v=.slice (some ⟨q,0,none⟩) 2 2∧Bk w1 q 105 #[pq b o,.pointer (some ⟨b,o+2,none⟩)]∧w.heap.size≤q) (fun w1=>StP E N t b pre post (qf3 s [x.client,x.out] 2).1 s.md (ql7 [iv x.client,uv x.number,iv x.out] [0,2] (qf3 s [x.client,x.out] 2).2) w (.returned (.tuple #[])) w1)) rfl (by kernel_rfl) (by rfl) (by kernel_rfl) ?_ ?_ ?_ ?_
 ·exact(Below.refl _ _).drew
 ·intro i hi hn o ho k vs w1 hk hlow hS hvs;rcases (show i=0 ∨ i=1 ∨ i=2 ∨ i=3 ∨ i=4 ∨ i=5 ∨ i=6 ∨ i=7 ∨ i=8 by omega) with rfl | rfl | rfl | rfl | rfl | rfl | rfl | rfl | rfl <;> cases ho
  ·clear hS hvs hlow hk hn;change Sem.run _ (execOp (Act.eval (frm _ _ _ [])) _) _=_;simp only[frm];go_simp
  ·clear hS hvs hlow hk hn;change Sem.run _ (execOp (Act.eval (frm _ _ _ [])) _) _=_;simp only[frm];go_simp
  ·have h1:vs 1=pq b o:=hvs 1 (by decide) (by decide);clear hS hvs hlow hk hn;change Sem.run _ (execOp (Act.eval (Act.put (frm _ _ _ []) (some 5) (vs 1))) _) _=_;simp only[frm,h1];go_simp
  ·have h2:vs 2=pq b o:=hvs 2 (by decide) (by decide);clear hS hvs hlow hk hn;change Sem.run _ (execOp (Act.eval (Act.put (frm _ _ _ []) (some 6) (vs 2))) _) _=_;simp only[frm,h2];go_simp
  ·clear hS hvs hlow hk hn;change Sem.run _ (execOp (Act.eval (frm _ _ _ [])) _) _=_;simp only[frm];go_simp
  ·have h4:vs 4=pq b o:=hvs 4 (by decide) (by decide);clear hS hvs hlow hk hn;change Sem.run _ (execOp (Act.eval (Act.put (frm _ _ _ []) (some 8) (vs 4))) _) _=_;simp only[frm,h4];go_simp
  ·have h5:vs 5=pq b o:=hvs 5 (by decide) (by decide);clear hS hvs hlow hk hn;change Sem.run _ (execOp (Act.eval (Act.put (frm _ _ _ []) (some 9) (vs 5))) _) _=_;simp only[frm,h5];go_simp
  ·exact absurd (by decide) hn
  ·exact absurd (by decide) hn
 ·intro p hp o ho vs w1 hS hvs;rcases (show p=0 ∨ p=1 by change p < 2 at hp;omega) with rfl | rfl <;> cases ho
  ·replace hS:bw w w1:=hS;have h3:vs 3=pq b o:=hvs 3 (by decide) (by decide);have h6:vs 6=.pointer (some ⟨b,o+2,none⟩):=hvs 6 (by decide) (by decide)
   show Made _ (fun v w1=>bw w w1∧∃ q,v=.slice (some ⟨q,0,none⟩) 2 2∧Bk w1 q 105 #[pq b o,.pointer (some ⟨b,o+2,none⟩)]∧w.heap.size≤q) _
   change Made _ _ (Sem.run _ (execOp (Act.eval (Act.put (Act.put (frm _ _ _ []) (some 10) (vs 6)) (some 7) (vs 3))) _) _);simp only[frm,h3,h6];have HB1:=lh hS;clear hS hvs h3 h6;go_simp;exact qa5 ⟨HB1.o.alloc HB1.o.size _,_,rfl,Bk.new _ _ _,HB1.o.size⟩
  ·replace hS:(fun v w1=>bw w w1∧∃ q,v=.slice (some ⟨q,0,none⟩) 2 2∧Bk w1 q 105 #[pq b o,.pointer (some ⟨b,o+2,none⟩)]∧w.heap.size≤q) (vs 7) w1:=hS;have h0:vs 0=pq gf 0:=hvs 0 (by decide) (by decide)
   show Made _ (fun _=>fun w1=>StP E N t b pre post (qf3 s [x.client,x.out] 2).1 s.md (ql7 [iv x.client,uv x.number,iv x.out] [0,2] (qf3 s [x.client,x.out] 2).2) w (.returned (.tuple #[])) w1) _
   change Made _ _ (Sem.run _ (execOp (Act.eval (Act.put (Act.put (frm _ _ _ []) (some 11) (vs 7)) (some 4) (vs 0))) _) _);obtain⟨hb1,q,hq,hbk,hqs⟩:=hS;simp only[frm,h0,hq];have cM:=qh4 (pre:=pre) (post:=post) (js:=[0,2]) (xs:=[x.client,x.out]) (HF.o.below hb1) ((show Hd E N t b pre post s.md w _ by rw[HM0.o];exact HH.o).below hb1) HO.o (show Bk w1 q 105 ([0,2].map fun j=>Value.pointer (some ⟨b,o+j,none⟩)).toArray from hbk) (by have:=HBL.o;omega) (qk6 HF.o (by omega)) rfl (by decide) (idx2 rfl rfl) (by simp only[List.mem_cons,List.not_mem_nil,or_false,forall_eq_or_imp,forall_eq];exact⟨HX.o.1,HX.o.2.1⟩) (HFT0.o.mono (by unfold qn3;simp only[List.flatMap_cons,List.flatMap_nil,List.length_append,List.length_nil];omega)) (by decide);rw[← HGF.o] at cM;have HB1:=lh hb1;clear hvs hbk hq hqs hb1 h0;go_simp;exact qg6 (cM.mono fun e w2 ⟨he,h1,h2,h3⟩=>⟨_,he,rfl,h1,h2,(Fr.ofBelow HB1.o).trans h3⟩)
 ·intro vs w5 hS hvs;replace hS:(fun w1=>StP E N t b pre post (qf3 s [x.client,x.out] 2).1 s.md (ql7 [iv x.client,uv x.number,iv x.out] [0,2] (qf3 s [x.client,x.out] 2).2) w (.returned (.tuple #[])) w1) w5:=hS;change wpList _ _ _ [] (Act.put (Act.put (Act.put (Act.put (Act.put (Act.put (Act.put (Act.put (Act.put (frm _ _ _ []) (some 12) (vs 8)) (some 11) (vs 7)) (some 10) (vs 6)) (some 9) (vs 5)) (some 8) (vs 4)) (some 7) (vs 3)) (some 6) (vs 2)) (some 5) (vs 1)) (some 4) (vs 0)) _;simp only[frm];clear hvs;generalize vs 0=z0;generalize vs 1=z1;generalize vs 2=z2;generalize vs 3=z3;generalize vs 4=z4;generalize vs 5=z5;generalize vs 6=z6;generalize vs 7=z7;generalize vs 8=z8;obtain⟨_,hF5,hH5,hfr5⟩:=hS;rw[stpN2 HQ0.o HQ1.o] at hF5 hH5;rw[HM0.o] at hH5 hfr5;replace hH5:Hd E N t b pre post m w5 [iv y0_,uv x.number,iv y1_]:=hH5;replace hF5:Fm E N w5 s1_:=hF5;have HF0_:=lh hF5;have HH0_:=lh hH5;have HFR0_:=lh hfr5;clear hF5 hH5 hfr5;have cM1:=qp7 (x:=x.number) (pre:=pre++[iv y0_]) (post:=[iv y1_]++post) (o:=o+1) HF0_.o (show Hd E N t b (pre++[iv y0_]) ([iv y1_]++post) s1_.md w5 [uv x.number] by rw[HM2.o];exact Hd.sub (r1:=[iv y0_]) (r2:=[uv x.number]) (r3:=[iv y1_]) HH0_.o) (by rw[List.length_append,HO.o];rfl) (HX.o.2.2) (HFT2.o.mono (by omega));rw[← HQ2.o,HM2.o,← HGF.o] at cM1
  try dsimp only at cM1
  go_wp2_with fail
  refine cM1.mono ?_;rintro e u1_ ⟨rfl,hF5,hH5,hfr5⟩;have hHH:Hd E N t b pre post m u1_ [iv y0_,uv y2_,iv y1_]:=Hd.back (r1:=[iv y0_]) (r2:=[uv x.number]) (r3:=[iv y1_]) (r2':=[uv y2_]) HH0_.o hfr5 rfl hH5;have HF1_:=lh hF5;have HH1_:=lh hHH;have HFR1_:=lh (HFR0_.o.trans hfr5);clear cM1 hF5 hH5 hfr5 hHH
  go_wp2_with fail
  go_end0
  exact⟨rfl,HF1_.o,HH1_.o,HFR1_.o⟩
end
theorem stp_need {s s0_ s1_ s2_:Fs} {x:Nd} {y0_:Int} {y1_:Int} {y2_:Int} (h0:(s0_,y0_)=stp qb7 Rd.i s x.peer) (h1:(s1_,y1_)=stp qb7 Rd.i s0_ x.stamp) (h2:(s2_,y2_)=stp qd8 Rd.u s1_ x.number):stp qd4 qe9 s x=(s2_,(⟨y0_,y2_,y1_⟩:Nd)):=by
 cases s with
 | w l =>
  obtain⟨rfl,rfl⟩:=Prod.mk.inj h0;obtain⟨rfl,rfl⟩:=Prod.mk.inj h1;obtain⟨rfl,rfl⟩:=Prod.mk.inj h2
  simp[stp,qd4,qe3,List.append_assoc]
 | r rd =>
  obtain⟨rfl,rfl⟩:=Prod.mk.inj h0;obtain⟨rfl,rfl⟩:=Prod.mk.inj h1;obtain⟨rfl,rfl⟩:=Prod.mk.inj h2
  rfl
section
variable {E:Env} {N:Nat→Prop} {t:TypeId} {b o:Nat} {pre post:List Value} {w:World} {s:Fs} {x:Nd}
theorem need_any (hF:Fm E N w s) (hH:Hd E N t b pre post s.md w [iv x.peer,uv x.number,iv x.stamp]) (ho:pre.length=o) (hx:ndP x) (hf:s.fit (qd4 x).length):Calls Tryz.prog 121 #[pq E.gf 0,pq b o] w (StP E N t b pre post (stp qd4 qe9 s x).1 s.md ((fun x:Nd=>([iv x.peer,uv x.number,iv x.stamp]:List Value)) (stp qd4 qe9 s x).2) w):=by
 obtain⟨gf,hgf⟩:∃ gf,gf=E.gf:=⟨_,rfl⟩
 obtain⟨m,hm⟩:∃ m,m=s.md:=⟨_,rfl⟩
 obtain⟨⟨s0_,y0_⟩,hq0⟩:∃ p,p=stp qb7 Rd.i s x.peer:=⟨_,rfl⟩
 obtain⟨⟨s1_,y1_⟩,hq1⟩:∃ p,p=stp qb7 Rd.i s0_ x.stamp:=⟨_,rfl⟩
 obtain⟨⟨s2_,y2_⟩,hq2⟩:∃ p,p=stp qd8 Rd.u s1_ x.number:=⟨_,rfl⟩
 rw[stp_need hq0 hq1 hq2];have hm0:s.md=m:=hm.symm;have hm1:=qb2 hq0 hm0;have hm2:=qb2 hq1 hm1;have hm3:=qb2 hq2 hm2;have hf0:s.fit ((qb7 x.peer).length+((qb7 x.stamp).length+((qd8 x.number).length+(0)))):=hf.mono (by unfold qd4;(try unfold qe3);simp only[List.length_append];omega);have hf1:s0_.fit ((qb7 x.stamp).length+((qd8 x.number).length+(0))):=qb0 hq0 hf0;have hf2:s1_.fit ((qd8 x.number).length+(0)):=qb0 hq1 hf1;have hf3:s2_.fit (0):=qb0 hq2 hf2;have HM0:=lh hm0;have HFT0:=lh hf0;have HM1:=lh hm1;have HFT1:=lh hf1;have HM2:=lh hm2;have HFT2:=lh hf2;have HM3:=lh hm3;have HFT3:=lh hf3;have HQ0:=lh hq0;have HQ1:=lh hq1;have HQ2:=lh hq2;have HX:=lh hx;have HO:=lh ho;have HGF:=lh hgf;rw[← hgf,← hm];rw[← hm] at hH;have HBL:Hid (b < w.heap.size):=lh (hH.lt (by simp));have HF:=lh hF;have HH:=lh hH;clear hgf hm hF hH ho hx hf hq0 hq1 hq2 hm0 hf0 hm1 hf1 hm2 hf2 hm3 hf3
 go_enter Tryz.func121,Tryz.ntmps121
 go_wp2_with fail
 refine qc9 9 (fun i=>([[],[],[1],[2],[],[4],[5],[3,6],[0,7]]:List (List Nat)).getD i []) [7,8] (fun i=>([1,0,0,0,0,0,0,0,0]:List Nat).getD i 0) (fun i=>([pq gf 0,pq b o,pq b o,pq b o,pq b o,pq b o,.pointer (some ⟨b,o+2,none⟩),bf,bf]:List Value).getD i (bf)) (CmS (Below w.heap.size w) (fun v w1=>bw w w1∧∃ q,v=.slice (some ⟨q,0,none⟩) 2 2∧Bk w1 q 105 #[pq b o,.pointer (some ⟨b,o+2,none⟩)]∧w.heap.size≤q) (fun w1=>StP E N t b pre post (qf3 s [x.peer,x.stamp] 2).1 s.md (ql7 [iv x.peer,uv x.number,iv x.stamp] [0,2] (qf3 s [x.peer,x.stamp] 2).2) w (.returned (.tuple #[])) w1)) rfl (by kernel_rfl) (by rfl) (by kernel_rfl) ?_ ?_ ?_ ?_
 ·exact(Below.refl _ _).drew
 ·intro i hi hn o ho k vs w1 hk hlow hS hvs;rcases (show i=0 ∨ i=1 ∨ i=2 ∨ i=3 ∨ i=4 ∨ i=5 ∨ i=6 ∨ i=7 ∨ i=8 by omega) with rfl | rfl | rfl | rfl | rfl | rfl | rfl | rfl | rfl <;> cases ho
  ·clear hS hvs hlow hk hn;change Sem.run _ (execOp (Act.eval (frm _ _ _ [])) _) _=_;simp only[frm];go_simp
  ·clear hS hvs hlow hk hn;change Sem.run _ (execOp (Act.eval (frm _ _ _ [])) _) _=_;simp only[frm];go_simp
  ·have h1:vs 1=pq b o:=hvs 1 (by decide) (by decide);clear hS hvs hlow hk hn;change Sem.run _ (execOp (Act.eval (Act.put (frm _ _ _ []) (some 5) (vs 1))) _) _=_;simp only[frm,h1];go_simp
  ·have h2:vs 2=pq b o:=hvs 2 (by decide) (by decide);clear hS hvs hlow hk hn;change Sem.run _ (execOp (Act.eval (Act.put (frm _ _ _ []) (some 6) (vs 2))) _) _=_;simp only[frm,h2];go_simp
  ·clear hS hvs hlow hk hn;change Sem.run _ (execOp (Act.eval (frm _ _ _ [])) _) _=_;simp only[frm];go_simp
  ·have h4:vs 4=pq b o:=hvs 4 (by decide) (by decide);clear hS hvs hlow hk hn;change Sem.run _ (execOp (Act.eval (Act.put (frm _ _ _ []) (some 8) (vs 4))) _) _=_;simp only[frm,h4];go_simp
  ·have h5:vs 5=pq b o:=hvs 5 (by decide) (by decide);clear hS hvs hlow hk hn;change Sem.run _ (execOp (Act.eval (Act.put (frm _ _ _ []) (some 9) (vs 5))) _) _=_;simp only[frm,h5];go_simp
  ·exact absurd (by decide) hn
  ·exact absurd (by decide) hn
 ·intro p hp o ho vs w1 hS hvs;rcases (show p=0 ∨ p=1 by change p < 2 at hp;omega) with rfl | rfl <;> cases ho
  ·replace hS:bw w w1:=hS;have h3:vs 3=pq b o:=hvs 3 (by decide) (by decide);have h6:vs 6=.pointer (some ⟨b,o+2,none⟩):=hvs 6 (by decide) (by decide)
   show Made _ (fun v w1=>bw w w1∧∃ q,v=.slice (some ⟨q,0,none⟩) 2 2∧Bk w1 q 105 #[pq b o,.pointer (some ⟨b,o+2,none⟩)]∧w.heap.size≤q) _
   change Made _ _ (Sem.run _ (execOp (Act.eval (Act.put (Act.put (frm _ _ _ []) (some 10) (vs 6)) (some 7) (vs 3))) _) _);simp only[frm,h3,h6];have HB1:=lh hS;clear hS hvs h3 h6;go_simp;exact qa5 ⟨HB1.o.alloc HB1.o.size _,_,rfl,Bk.new _ _ _,HB1.o.size⟩
  ·replace hS:(fun v w1=>bw w w1∧∃ q,v=.slice (some ⟨q,0,none⟩) 2 2∧Bk w1 q 105 #[pq b o,.pointer (some ⟨b,o+2,none⟩)]∧w.heap.size≤q) (vs 7) w1:=hS;have h0:vs 0=pq gf 0:=hvs 0 (by decide) (by decide)
   show Made _ (fun _=>fun w1=>StP E N t b pre post (qf3 s [x.peer,x.stamp] 2).1 s.md (ql7 [iv x.peer,uv x.number,iv x.stamp] [0,2] (qf3 s [x.peer,x.stamp] 2).2) w (.returned (.tuple #[])) w1) _
   change Made _ _ (Sem.run _ (execOp (Act.eval (Act.put (Act.put (frm _ _ _ []) (some 11) (vs 7)) (some 4) (vs 0))) _) _);obtain⟨hb1,q,hq,hbk,hqs⟩:=hS;simp only[frm,h0,hq];have cM:=qh4 (pre:=pre) (post:=post) (js:=[0,2]) (xs:=[x.peer,x.stamp]) (HF.o.below hb1) ((show Hd E N t b pre post s.md w _ by rw[HM0.o];exact HH.o).below hb1) HO.o (show Bk w1 q 105 ([0,2].map fun j=>Value.pointer (some ⟨b,o+j,none⟩)).toArray from hbk) (by have:=HBL.o;omega) (qk6 HF.o (by omega)) rfl (by decide) (idx2 rfl rfl) (by simp only[List.mem_cons,List.not_mem_nil,or_false,forall_eq_or_imp,forall_eq];exact⟨HX.o.1,HX.o.2.1⟩) (HFT0.o.mono (by unfold qn3;simp only[List.flatMap_cons,List.flatMap_nil,List.length_append,List.length_nil];omega)) (by decide);rw[← HGF.o] at cM;have HB1:=lh hb1;clear hvs hbk hq hqs hb1 h0;go_simp;exact qg6 (cM.mono fun e w2 ⟨he,h1,h2,h3⟩=>⟨_,he,rfl,h1,h2,(Fr.ofBelow HB1.o).trans h3⟩)
 ·intro vs w5 hS hvs;replace hS:(fun w1=>StP E N t b pre post (qf3 s [x.peer,x.stamp] 2).1 s.md (ql7 [iv x.peer,uv x.number,iv x.stamp] [0,2] (qf3 s [x.peer,x.stamp] 2).2) w (.returned (.tuple #[])) w1) w5:=hS;change wpList _ _ _ [] (Act.put (Act.put (Act.put (Act.put (Act.put (Act.put (Act.put (Act.put (Act.put (frm _ _ _ []) (some 12) (vs 8)) (some 11) (vs 7)) (some 10) (vs 6)) (some 9) (vs 5)) (some 8) (vs 4)) (some 7) (vs 3)) (some 6) (vs 2)) (some 5) (vs 1)) (some 4) (vs 0)) _;simp only[frm];clear hvs;generalize vs 0=z0;generalize vs 1=z1;generalize vs 2=z2;generalize vs 3=z3;generalize vs 4=z4;generalize vs 5=z5;generalize vs 6=z6;generalize vs 7=z7;generalize vs 8=z8;obtain⟨_,hF5,hH5,hfr5⟩:=hS;rw[stpN2 HQ0.o HQ1.o] at hF5 hH5;rw[HM0.o] at hH5 hfr5;replace hH5:Hd E N t b pre post m w5 [iv y0_,uv x.number,iv y1_]:=hH5;replace hF5:Fm E N w5 s1_:=hF5;have HF0_:=lh hF5;have HH0_:=lh hH5;have HFR0_:=lh hfr5;clear hF5 hH5 hfr5;have cM1:=qp7 (x:=x.number) (pre:=pre++[iv y0_]) (post:=[iv y1_]++post) (o:=o+1) HF0_.o (show Hd E N t b (pre++[iv y0_]) ([iv y1_]++post) s1_.md w5 [uv x.number] by rw[HM2.o];exact Hd.sub (r1:=[iv y0_]) (r2:=[uv x.number]) (r3:=[iv y1_]) HH0_.o) (by rw[List.length_append,HO.o];rfl) (HX.o.2.2) (HFT2.o.mono (by omega));rw[← HQ2.o,HM2.o,← HGF.o] at cM1
  try dsimp only at cM1
  go_wp2_with fail
  refine cM1.mono ?_;rintro e u1_ ⟨rfl,hF5,hH5,hfr5⟩;have hHH:Hd E N t b pre post m u1_ [iv y0_,uv y2_,iv y1_]:=Hd.back (r1:=[iv y0_]) (r2:=[uv x.number]) (r3:=[iv y1_]) (r2':=[uv y2_]) HH0_.o hfr5 rfl hH5;have HF1_:=lh hF5;have HH1_:=lh hHH;have HFR1_:=lh (HFR0_.o.trans hfr5);clear cM1 hF5 hH5 hfr5 hHH
  go_wp2_with fail
  go_end0
  exact⟨rfl,HF1_.o,HH1_.o,HFR1_.o⟩
end
end
section
open Go.RowKit
/-- how a value lies in memory: by mode (true: it came in, and is written; false: it was read) and by what is protected -/
abbrev Rel (α:Type):=Bool→(Nat→Prop)→World→α→List Value→Prop
structure RK {α:Type} (R:Rel α) (bad:TypeId→Prop):Prop where
 wr:∀ {N:Nat→Prop} {w w':World} {x:α} {r:List Value},R true N w x r→Kp (fun k=>¬ N k) w w'→R true N w' x r
 rd:∀ {N S:Nat→Prop} {w w':World} {x:α} {r:List Value},R false N w x r→Kp S w w'→(∀ k,S k→∃ t cs,Bk w k t cs∧¬ bad t)→R false N w' x r
def qa6 {α:Type} (cells:α→List Value):Rel α:=fun _ _ _ x r=>r=cells x
theorem qa0 {α:Type} (cells:α→List Value):RK (qa6 cells) fun _=>False:=⟨fun h _=>h,fun h _ _=>h⟩
def LsR {α:Type} (R:Rel α) (tE:TypeId) (sz:Nat) (m:Bool) (N:Nat→Prop) (w:World) (A:Option Addr) (c:Nat) (l:List α):Prop :=
 if m=true then l.length≤c∧l.length≤140737488351232∧(l.length=0 ∨ ∃ b o,A=some ⟨b,o,none⟩∧N b∧∀ i x,l[i]?=some x→∃ r:List Value,r.length=sz∧R true N w x r∧∀ j v,r[j]?=some v→w.cell? ⟨b,o+i*sz+j,none⟩=some v∧w.frozen? ⟨b,o+i*sz+j,none⟩=false)
 else ∃ xs,w.ownsRow 0 tE sz (.slice A l.length c) l.length xs∧Els (R false N) sz w l xs
section
variable {α:Type} {R:Rel α} {bad:TypeId→Prop} {tE:TypeId} {sz:Nat} {N S:Nat→Prop} {w w':World} {A:Option Addr} {c:Nat} {l:List α}
theorem LsR.wr (hR:RK R bad) (h:LsR R tE sz true N w A c l) (hk:Kp (fun k=>¬ N k) w w'):LsR R tE sz true N w' A c l:=by
 unfold LsR at h ⊢;rw[if_pos rfl] at h ⊢;refine⟨h.1,h.2.1,?_⟩;rcases h.2.2 with h0 | ⟨b,o,hA,hb,hc⟩
 ·exact .inl h0
 ·refine .inr ⟨b,o,hA,hb,fun i x hx=>?_⟩;obtain⟨r,h1,h2,h3⟩:=hc i x hx;refine⟨r,h1,hR.wr h2 hk,fun j v hv=>?_⟩;obtain⟨g1,g2⟩:=h3 j v hv;refine⟨hk.cell g1 (fun h=>h hb),?_⟩;rw[qd6 (hk.block b (qa4 g1) (fun h=>h hb))];exact g2
theorem LsR.rd (hR:RK R bad) (h:LsR R tE sz false N w A c l) (hk:Kp S w w') (hS:∀ k,S k→∃ t cs,Bk w k t cs∧t≠tE∧¬ bad t):LsR R tE sz false N w' A c l:=by
 unfold LsR at h ⊢;rw[if_neg (by simp)] at h ⊢;obtain⟨xs,h1,h2⟩:=h;exact⟨xs,own_kpT h1 hk (fun k hk=>let ⟨t,cs,a,b,_⟩:=hS k hk;⟨t,cs,a,b⟩),h2.mono fun x r hx=>hR.rd hx hk fun k hk=>let ⟨t,cs,a,_,b⟩:=hS k hk;⟨t,cs,a,b⟩⟩
theorem LsR.nil:LsR R tE sz false N w none 0 ([]:List α):=by
 unfold LsR;rw[if_neg (by simp)];exact⟨[],World.ownsRow_nil _ _ _ _,Els.nil _ _ _⟩
end
/-- what a method of the form leaves at a place that may refer to rows -/
def CpP {α:Type} (E:Env) (N:Nat→Prop) (t:TypeId) (b:Nat) (pre post:List Value) (s':Fs) (m:Bool) (R:Rel α) (x':α) (w:World) (e:Ending) (w':World):Prop :=
 e=.returned (.tuple #[])∧Fm E N w' s'∧(∃ r',R m N w' x' r'∧Hd E N t b pre post m w' r')∧Fr E N b m w w'
def LsP {α:Type} (E:Env) (N:Nat→Prop) (t:TypeId) (b:Nat) (pre post:List Value) (s':Fs) (m:Bool) (R:Rel α) (tE:TypeId) (sz:Nat) (l':List α) (w:World) (e:Ending) (w':World):Prop :=
 e=.returned (.tuple #[])∧Fm E N w' s'∧(∃ A c,LsR R tE sz m N w' A c l'∧Hd E N t b pre post m w' [.slice A l'.length c])∧Fr E N b m w w'
theorem StP.cp {α:Type} {E:Env} {N:Nat→Prop} {t:TypeId} {b:Nat} {pre post:List Value} {s':Fs} {m:Bool} {cells:α→List Value} {x':α} {w w':World} {e:Ending} (h:StP E N t b pre post s' m (cells x') w e w'):CpP E N t b pre post s' m (qa6 cells) x' w e w':=⟨h.1,h.2.1,⟨_,rfl,h.2.2.1⟩,h.2.2.2⟩
def rfC (x:Rf):List Value:=[iv x.kind,iv x.int,iv x.owner,uv x.number,iv x.idm,iv x.ids,iv x.cls,.bool x.weak]
def inC (x:In):List Value:=[iv x.client,uv x.number,iv x.out]
def ndC (x:Nd):List Value:=[iv x.peer,uv x.number,iv x.stamp]
section
variable {E:Env} {N:Nat→Prop} {t:TypeId} {b o:Nat} {pre post r:List Value} {w:World} {s:Fs}
theorem rfE_any {x:Rf} (hF:Fm E N w s) (hR:qa6 rfC s.md N w x r) (hH:Hd E N t b pre post s.md w r) (ho:pre.length=o) (hx:rfP x) (hf:s.fit (qc0 x).length):Calls Tryz.prog 42 #[pq E.gf 0,pq b o] w (CpP E N t b pre post (stp qc0 qd3 s x).1 s.md (qa6 rfC) (stp qc0 qd3 s x).2 w):=by
 unfold qa6 at hR;subst hR;exact(ref_any hF hH ho hx hf).mono fun e w' h=>StP.cp h
theorem inE_any {x:In} (hF:Fm E N w s) (hR:qa6 inC s.md N w x r) (hH:Hd E N t b pre post s.md w r) (ho:pre.length=o) (hx:inP x) (hf:s.fit (qe0 x).length):Calls Tryz.prog 119 #[pq E.gf 0,pq b o] w (CpP E N t b pre post (stp qe0 qf9 s x).1 s.md (qa6 inC) (stp qe0 qf9 s x).2 w):=by
 unfold qa6 at hR;subst hR;exact(inset_any hF hH ho hx hf).mono fun e w' h=>StP.cp h
theorem ndE_any {x:Nd} (hF:Fm E N w s) (hR:qa6 ndC s.md N w x r) (hH:Hd E N t b pre post s.md w r) (ho:pre.length=o) (hx:ndP x) (hf:s.fit (qd4 x).length):Calls Tryz.prog 121 #[pq E.gf 0,pq b o] w (CpP E N t b pre post (stp qd4 qe9 s x).1 s.md (qa6 ndC) (stp qd4 qe9 s x).2 w):=by
 unfold qa6 at hR;subst hR;exact(need_any hF hH ho hx hf).mono fun e w' h=>StP.cp h
end
theorem qi4 {α:Type} (enc:α→List Int) {l:List α} {k:Nat} {x:α} (h:l[k]?=some x):(l.take (k+1)).flatMap enc=(l.take k).flatMap enc++enc x:=by
 rw[List.take_add_one,h,List.flatMap_append];simp
theorem qo4 {α:Type} (enc:α→List Int) {l:List α} {k:Nat} {x:α} (h:l[k]?=some x):(qd8 l.length).length+((l.take k).flatMap enc).length+(enc x).length≤(qc6 enc l).length:=by
 have e:l.flatMap enc=(l.take k).flatMap enc++(enc x++(l.drop (k+1)).flatMap enc):=by
  conv=>lhs;rw[← List.take_append_drop (k+1) l]
  rw[List.flatMap_append,qi4 enc h,List.append_assoc]
 unfold qc6;rw[e];simp only[List.length_append]
 omega
end
end Go.Proofs.YtmbnlccafcfbeaaGreatDoor
