/- Parts of the proof: RcB, RcC0. -/
import Derived.Test.YtmbnlccafcfbeaaGreatDoorPdA
import Derived.Test.YtmbnlccafcfbeaaGreatDoorPd8
set_option linter.unusedVariables false
set_option linter.unusedSimpArgs false
set_option linter.unusedSectionVars false
set_option maxRecDepth 100000
namespace Go.Proofs.YtmbnlccafcfbeaaGreatDoor
section
open Go.RowKit
attribute [local go_sem] Oper.semAt_some
theorem setCell_id {w:World} {b o:Nat} {v:Value} (h:w.cell? ⟨b,o,none⟩=some v):w.setCell ⟨b,o,none⟩ v=w:=by
 have hh:(w.setCell ⟨b,o,none⟩ v).heap=w.heap:=by
  refine Array.ext_getElem? fun j=>?_
  by_cases hj:j=b
  ·subst hj
   unfold World.cell? at h
   dsimp only at h
   unfold World.setCell
   dsimp only
   rw[Array.getElem?_modify,if_pos rfl]
   cases ho:w.heap[j]? with
   | none=>rfl
   | some x =>
    rw[ho] at h
    cases x with
    | cells c e fz =>
     simp only[Option.isSome_none,Bool.false_eq_true,if_false,Option.map_some] at h ⊢
     congr 2
     refine Array.ext (by simp) fun i h1 h2=>?_
     rw[Array.getElem_setIfInBounds]
     split
     ·rename_i e
      subst e
      exact(Array.getElem?_eq_some_iff.1 h).2.symm
     ·rfl
    | _=>cases h
  ·exact Below.heap_setCell w ⟨b,o,none⟩ v j hj
 have:w.setCell ⟨b,o,none⟩ v={ w with heap:=(w.setCell ⟨b,o,none⟩ v).heap }:=rfl
 rw[this,hh]
section
variable {E:Env} {N N':Nat→Prop} {t:TypeId} {b j:Nat} {pre post r:List Value} {w w':World} {s:Fs} {x y:Value}
theorem bk_set (h:Bk w b t (pre++r++post).toArray) (hj:j < r.length):Bk (w.setCell ⟨b,pre.length+j,none⟩ y) b t (pre++r.set j y++post).toArray:=by
 have:=h.set (pre.length+j) y
 have e:(pre++r++post).toArray.setIfInBounds (pre.length+j) y=(pre++r.set j y++post).toArray:=by
  rw[List.setIfInBounds_toArray,List.append_assoc,List.append_assoc,List.set_append_right _ _ (by omega),show pre.length+j - pre.length=j by omega,List.set_append_left _ _ hj]
 rw[e] at this
 exact this
theorem Fm.kp {S:Nat→Prop} {rd:Rd} (h:Fm E N w (.r rd)) (hk:Kp S w w') (h1:¬ S E.gf) (h2:¬ S E.g) (h3:¬ S E.bb):Fm E N w' (.r rd) :=
 ⟨h.1.kp hk h1,h.2.1.kp hk h2 h3,h.2.2.1,Nat.lt_of_lt_of_le h.2.2.2 hk.size⟩
theorem store_place (hF:Fm E N w s) (hH:Hd E N t b pre post s.md w r) (hx:r[j]?=some x) (hy:s.md=true→y=x) :
  Fm E N (w.setCell ⟨b,pre.length+j,none⟩ y) s∧Hd E N t b pre post s.md (w.setCell ⟨b,pre.length+j,none⟩ y) (r.set j y)∧∀ N2,Fr E N2 b s.md w (w.setCell ⟨b,pre.length+j,none⟩ y):=by
 have hj:=(List.getElem?_eq_some_iff.1 hx).1
 cases s with
 | w l =>
  obtain rfl:=hy rfl
  have hc:=(hH.cell hx).1
  rw[setCell_id hc]
  have:r.set j y=r:=by
   refine List.ext_getElem? fun i=>?_
   rw[List.getElem?_set]
   by_cases e:j=i
   ·subst e
    rw[hx]
    simp[hj]
   ·simp[e]
  rw[this]
  exact⟨hF,hH,fun N2=>Fr.refl⟩
 | r rd =>
  have hk:Kp (fun k=>k=b) w (w.setCell ⟨b,pre.length+j,none⟩ y):=Kp.setCell (S:=fun k=>k=b) w ⟨b,pre.length+j,none⟩ _ rfl
  have hB:=hH
  change Hd E N t b pre post false w r at hB
  unfold Hd at hB
  rw[if_neg (by simp)] at hB
  obtain⟨h1,n1,n2,n3⟩:=hB
  refine⟨hF.kp hk (fun e=>n1 e.symm) (fun e=>n2 e.symm) (fun e=>n3 e.symm),?_,?_⟩
  ·show Hd E N t b pre post false _ _
   unfold Hd
   rw[if_neg (by simp)]
   exact⟨bk_set h1 hj,n1,n2,n3⟩
  ·intro N2
   show Kp (FrS E N2 b false) _ _
   rw[frS_false]
   exact hk.mono fun _ _ h=>.inr h
theorem Fm.anti (h:Fm E N' w s) (hs:∀ k,N k→N' k):Fm E N w s:=by
 cases s with
 | w l =>
  obtain⟨A,c,h1,h2,h3,h4,h5⟩:=h
  exact⟨A,c,h1,h2,fun k hk hn=>h3 k hk (hs k hn),fun hn=>h4 (hs _ hn),fun k hk=>h5 k (hs k hk)⟩
 | r rd=>exact h
/-- one more block is protected -/
theorem Fm.more {q:Nat} {tq:TypeId} {cs:Array Value} (h:Fm E N w s) (hq:Bk w q tq cs) (h1:tq≠5) (h2:tq≠82):Fm E (fun k=>N k ∨ k=q) w s:=by
 cases s with
 | w l =>
  obtain⟨A,c,g1,g2,g3,g4,g5⟩:=h
  refine⟨A,c,g1,g2,fun k hk hn=>hn.elim (g3 k hk) fun e=>?_,fun hn=>hn.elim g4 fun e=>?_,fun k hn=>hn.elim (g5 k) fun e=>by rw[e];exact hq.lt⟩
  ·subst e
   exact row_ne g2 hq h1 hk
  ·have h3:=g1
   rw[e] at h3
   unfold Bk at h3 hq
   rw[h3] at hq
   injection hq with hq
   injection hq with _ hq
   exact h2 hq.symm
 | r rd=>exact h
end
def updI (r:List Value):List Nat→List Int→List Value
 | j::js,y::ys=>updI (r.set j (.int .i64 y)) js ys
 | _,_=>r
theorem RdX.bkq {w:World} {g bb:Nat} {r:Rd} (h:RdX w g bb r):∃ cs,Bk w g 103 cs:=let ⟨A,c,h⟩:=h;⟨_,h.bk⟩
theorem updI_snoc:∀ (js:List Nat) (ys:List Int) (r:List Value) (j:Nat) (y:Int),js.length=ys.length→updI r (js++[j]) (ys++[y])=(updI r js ys).set j (.int .i64 y)
 | [],[],r,j,y,_=>rfl
 | a::js,b::ys,r,j,y,h=>by
  show updI (r.set a (.int .i64 b)) (js++[j]) (ys++[y])=_
  rw[updI_snoc js ys _ j y (by simpa using h)]
  rfl
theorem updI_get:∀ (js:List Nat) (ys:List Int) (r:List Value) (j:Nat),j ∉ js→(updI r js ys)[j]?=r[j]?
 | [],ys,r,j,_=>by cases ys <;> rfl
 | a::js,[],r,j,_=>rfl
 | a::js,b::ys,r,j,h=>by
  show(updI (r.set a (.int .i64 b)) js ys)[j]?=_
  rw[updI_get js ys _ j (fun hm=>h (List.mem_cons_of_mem _ hm)),List.getElem?_set_ne (fun e=>h (by rw[e];exact List.mem_cons_self ..))]
def stpN (s:Fs) (xs:List Int):Nat→Fs × List Int
 | 0=>(s,[])
 | i+1=>let p:=stpN s xs i;let q:=stp encI Rd.i p.1 (xs.getD i 0);(q.1,p.2++[q.2])
theorem stpN_md (s:Fs) (xs:List Int):∀ i,(stpN s xs i).1.md=s.md
 | 0=>rfl
 | i+1=>by
  show(stp encI Rd.i (stpN s xs i).1 (xs.getD i 0)).1.md=s.md
  rw[stp_md,stpN_md s xs i]
theorem stpN_len (s:Fs) (xs:List Int):∀ i,(stpN s xs i).2.length=i
 | 0=>rfl
 | i+1=>by show((stpN s xs i).2++[_]).length=_;rw[List.length_append,stpN_len s xs i];rfl
theorem stp_same {α:Type} {enc:α→List Int} {dec:Rd→α × Rd} {s:Fs} {x:α} (h:s.md=true):(stp enc dec s x).2=x:=by
 cases s with
 | w l=>rfl
 | r r=>cases h
theorem stpN_fit (s:Fs) (xs:List Int):∀ i,i≤xs.length→∀ n,s.fit ((encIs xs).length+n)→(stpN s xs i).1.fit ((encIs (xs.drop i)).length+n)
 | 0,_,n,h=>h
 | i+1,hi,n,h=>by
  have h1:=stpN_fit s xs i (by omega) n h
  have e:(encIs (xs.drop i)).length+n=(encI (xs.getD i 0)).length+((encIs (xs.drop (i+1))).length+n):=by
   rw[List.drop_eq_getElem_cons (by omega)]
   unfold encIs
   rw[List.flatMap_cons,List.length_append,List.getD_eq_getElem?_getD,List.getElem?_eq_getElem (by omega),Nat.add_assoc]
   rfl
  rw[e] at h1
  exact h1.next
section
variable {E:Env} {N:Nat→Prop} {t:TypeId} {b o q:Nat} {pre post r:List Value} {w:World} {s:Fs} {js:List Nat} {xs:List Int}
set_option maxHeartbeats 4000000 in
theorem small_any (hF:Fm E N w s) (hH:Hd E N t b pre post s.md w r) (ho:pre.length=o) (hq:Bk w q 105 (js.map fun j=>Value.pointer (some ⟨b,o+j,none⟩)).toArray) (hqb:q≠b) (hqg:s.md=false→q≠E.g) (hl:js.length=xs.length) (hn:js.Nodup) (hx:∀ i j,js[i]?=some j→r[j]?=some (Value.int .i64 (xs.getD i 0))) (hr:∀ x∈xs,I64 x) (hf:s.fit (encIs xs).length) (hs:js.length≤1000) :
  Calls Tryz.prog 50 #[.pointer (some ⟨E.gf,0,none⟩),.slice (some ⟨q,0,none⟩) js.length js.length] w (StP E N t b pre post (stpN s xs xs.length).1 s.md (updI r js (stpN s xs xs.length).2) w):=by
 obtain⟨K,hK⟩:∃ K,K=js.length:=⟨_,rfl⟩
 obtain⟨gf,hgf⟩:∃ gf,gf=E.gf:=⟨_,rfl⟩
 rw[← hK] at hs
 rw[← hgf,← hK]
 have HGF:=lh hgf
 have HI:=lh (And.intro hF (And.intro hH hq))
 have HP:=lh (And.intro ho (And.intro hqb (And.intro hqg (And.intro hl (And.intro hn (And.intro hx (And.intro hr (And.intro hf hK))))))))
 clear hF hH ho hq hqb hqg hl hn hx hr hf hgf hK
 go_enter Tryz.func50,Tryz.ntmps50
 go_wp2_with fail
 go_loopw [9] (fun ix wr=>∃ i:Nat,ix=.int .i64 (i:Int)∧i≤K∧Fm E N wr (stpN s xs i).1∧Hd E N t b pre post s.md wr (updI r (js.take i) (stpN s xs i).2)∧Fr E (fun k=>N k ∨ k=q) b s.md w wr) (fun ix _=>K - (intOf ix).toNat)
 case atStart=>exact⟨0,rfl,Nat.zero_le _,HI.out.1,by rw[List.take_zero];exact HI.out.2.1,Fr.refl⟩
 case round =>
  obtain⟨i,rfl,hi,hF,hH,hfr⟩:=hrel
  have hqk:Bk wr q 105 (js.map fun j=>Value.pointer (some ⟨b,o+j,none⟩)).toArray:=HI.out.2.2.kp hfr (by
   unfold FrS
   split
   ·exact fun h=>h (.inr rfl)
   ·rename_i hm
    exact fun h=>h.elim (HP.out.2.2.1 (by simpa using hm)) HP.out.2.1)
  by_cases hlt:i < K
  ·have hij:i < js.length:=by rw[← HP.out.2.2.2.2.2.2.2.2];exact hlt
   have hjs:js[i]?=some js[i]:=List.getElem?_eq_getElem hij
   have hnot:js[i] ∉ js.take i:=fun hm=>by
    obtain⟨k,hk,he⟩:=List.mem_iff_getElem.1 hm
    rw[List.length_take] at hk
    rw[List.getElem_take] at he
    have:=(List.getElem_inj HP.out.2.2.2.2.1).1 he
    omega
   have hri:(updI r (js.take i) (stpN s xs i).2)[js[i]]?=some (.int .i64 (xs.getD i 0)):=by rw[updI_get _ _ _ _ hnot];exact HP.out.2.2.2.2.2.1 i _ hjs
   have hc:=hH.cell hri
   rw[HP.out.1] at hc
   obtain⟨j,hj⟩:∃ j,j=js[i]:=⟨_,rfl⟩
   obtain⟨x,hxx⟩:∃ x,x=xs.getD i 0:=⟨_,rfl⟩
   rw[← hj] at hri hc hjs hnot
   rw[← hxx] at hri hc
   have hxi:I64 x:=by
    have h1:i < xs.length:=by have:=HP.out.2.2.2.1;omega
    rw[hxx,List.getD_eq_getElem?_getD,List.getElem?_eq_getElem h1]
    exact HP.out.2.2.2.2.2.2.1 _ (List.getElem_mem h1)
   have p0:wr.cell? ⟨q,i,none⟩=some (.pointer (some ⟨b,o+j,none⟩)):=by
    rw[hqk.cell,List.getElem?_toArray,List.getElem?_map,hjs]
    rfl
   have x0:=hc.1
   have hql:=hqk.lt
   have hbl:b < wr.heap.size:=cell_lt hc.1
   have hfit:(stpN s xs i).1.fit (encI x).length:=by
    have h1:=stpN_fit s xs i (by have:=HP.out.2.2.2.1;omega) 0 HP.out.2.2.2.2.2.2.2.1
    have h2:i < xs.length:=by have:=HP.out.2.2.2.1;omega
    refine h1.mono ?_
    rw[List.drop_eq_getElem_cons h2,hxx,List.getD_eq_getElem?_getD,List.getElem?_eq_getElem h2]
    unfold encIs
    rw[List.flatMap_cons,List.length_append]
    show(encI xs[i]).length≤_
    omega
   obtain⟨si,hsi⟩:∃ si,si=(stpN s xs i).1:=⟨_,rfl⟩
   obtain⟨ri,hrr⟩:∃ ri,ri=updI r (js.take i) (stpN s xs i).2:=⟨_,rfl⟩
   have hmd:si.md=s.md:=by rw[hsi];exact stpN_md s xs i
   rw[← hsi] at hF hfit
   rw[← hrr] at hH hri
   have HX:=lh (And.intro hjs (And.intro hxx (And.intro hsi hrr)))
   have HHi:=lh (And.intro hF (And.intro hH (And.intro hfr (And.intro hqk (And.intro hri (And.intro hmd (And.intro hxi hfit)))))))
   have HFZ:=lh hc.2
   clear hF hH hfr hqk hri hmd hxi hfit hjs hnot hc hj hxx hsi hrr hij
   go_upto_region 4 with fail
   clear p0
   obtain⟨w1,hw1⟩:∃ w1,w1=wr.alloc (.cells #[.int .i64 x] 2):=⟨_,rfl⟩
   obtain⟨nb,hnb⟩:∃ nb,nb=wr.heap.size:=⟨_,rfl⟩
   have hb1:Below wr.heap.size wr w1:=by rw[hw1];exact(Below.refl _ _).alloc (Nat.le_refl _) _
   have hk1:Bk w1 nb 2 #[.int .i64 x]:=by rw[hw1,hnb];exact Bk.new _ _ _
   rw[← hw1,← hnb]
   have hF1:Fm E (fun k=>(N k ∨ k=q) ∨ k=nb) w1 si:=((HHi.out.1.below hb1).more (HHi.out.2.2.2.1.below hb1 hql) (by decide) (by decide)).more hk1 (by decide) (by decide)
   have hH1:Hd E (fun k=>(N k ∨ k=q) ∨ k=nb) 2 nb [] [] si.md w1 [.int .i64 x]:=by
    unfold Hd
    cases hm:si.md with
    | true =>
     rw[if_pos rfl]
     refine⟨.inr rfl,fun k v hv=>?_⟩
     have hk0:k=0:=by have:=(List.getElem?_eq_some_iff.1 hv).1;simpa using this
     subst hk0
     refine⟨?_,hk1.free _⟩
     rw[hk1.cell]
     exact hv
    | false =>
     rw[if_neg (by simp)]
     refine⟨hk1,?_⟩
     have h1:=HHi.out.1
     cases hsi2:si with
     | w l=>rw[hsi2] at hm;cases hm
     | r rd =>
      rw[hsi2] at h1
      obtain⟨g1,g2,g3,g4⟩:=h1
      obtain⟨cs,hcs⟩:=g2.bkq
      have:=g1.lt
      have:=hcs.lt
      exact⟨by omega,by omega,by omega⟩
   have cM:=Itg_any hF1 hH1 rfl HHi.out.2.2.2.2.2.2.1 HHi.out.2.2.2.2.2.2.2
   obtain⟨⟨s2,x2⟩,hs2⟩:∃ p,p=stp encI Rd.i si x:=⟨_,rfl⟩
   rw[← hs2] at cM
   dsimp only at cM
   rw[show([]:List Value).length=0 from rfl,← HGF.out] at cM
   have HS2:=lh hs2
   have HB1:=lh (And.intro hb1 (And.intro hnb hk1))
   have p5:w1.cell? ⟨b,o+j,none⟩=some (.int .i64 x):=(hb1.cell (p:=⟨b,o+j,none⟩) hbl).trans x0
   clear hs2 hb1 hnb hk1 hF1 hH1 hw1 x0 p5
   go_wp2_with fail
   refine cM.mono ?_
   rintro e w2 ⟨rfl,hF2,hH2,hfr2⟩
   have hn0:=(hH2.cell (j:=0) rfl).1
   have hKp:Kp (FrS E (fun k=>N k ∨ k=q) b si.md) wr w2:=(Kp.of_below HB1.out.1).trans hfr2 fun k hk h=>by
    unfold FrS at h ⊢
    split
    ·rename_i hm
     rw[if_pos hm] at h
     exact fun hn=>h (.inl hn)
    ·rename_i hm
     rw[if_neg hm] at h
     exact h.elim .inl fun e=>by have:=HB1.out.2.1;omega
   have hFF:Fm E N w2 s2:=hF2.anti fun k hk=>.inl (.inl hk)
   have hHH:Hd E N t b pre post si.md w2 ri:=by
    have h0:=HHi.out.2.1
    rw[← HHi.out.2.2.2.2.2.1] at h0
    have h1:=h0.below HB1.out.1
    cases hm:si.md with
    | true =>
     rw[hm] at h1 hfr2
     have hb:N b:=by unfold Hd at h1;rw[if_pos rfl] at h1;exact h1.1
     exact h1.kp hfr2 (by unfold FrS;rw[if_pos rfl];exact fun h=>h (.inl (.inl hb)))
    | false =>
     rw[hm] at h1 hfr2
     have hB:=h1
     unfold Hd at hB
     rw[if_neg (by simp)] at hB
     exact h1.kp hfr2 (by
      unfold FrS
      rw[if_neg (by simp)]
      exact fun h=>h.elim hB.2.2.1 fun e=>by have:=HB1.out.2.1;omega)
   have hms:s2.md=si.md:=by have:=stp_md encI Rd.i si x;rw[← HS2.out] at this;exact this
   have hx2:s2.md=true→x2=x:=fun h=>by
    have:=stp_same (enc:=encI) (dec:=Rd.i) (x:=x) (s:=si) (by rw[← hms];exact h)
    rw[← HS2.out] at this
    exact this
   have hbq:=hHH
   rw[← hms] at hbq
   have hst:=store_place (j:=j) (y:=.int .i64 x2) hFF hbq HHi.out.2.2.2.2.1 (fun h=>by rw[hx2 h])
   rw[HP.out.1] at hst
   have hcc:=hHH.cell HHi.out.2.2.2.2.1
   rw[HP.out.1] at hcc
   have p6:=hcc.1
   have f6:=hcc.2
   have HST:=lh (And.intro hst (And.intro hKp hms))
   have n0:w2.cell? ⟨nb,0,none⟩=some (.int .i64 x2):=hn0
   clear cM hF2 hH2 hfr2 hn0 hKp hFF hHH hms hx2 hbq hst hcc
   go_wp2_with fail
   go_roundw
   case rel =>
    have e1:stpN s xs (i+1)=(s2,(stpN s xs i).2++[x2]):=by
     show((stp encI Rd.i (stpN s xs i).1 (xs.getD i 0)).1,(stpN s xs i).2++[(stp encI Rd.i (stpN s xs i).1 (xs.getD i 0)).2])=_
     rw[← HX.out.2.2.1,← HX.out.2.1,← HS2.out]
    have hmm:s2.md=s.md:=HST.out.2.2.trans HHi.out.2.2.2.2.2.1
    refine⟨i+1,by go_num,hlt,?_,?_,?_⟩
    ·rw[e1];exact HST.out.1.1
    ·rw[e1,List.take_add_one,HX.out.1]
     show Hd E N t b pre post s.md _ (updI r (js.take i++[j]) ((stpN s xs i).2++[x2]))
     rw[updI_snoc _ _ _ _ _ (by rw[List.length_take,stpN_len];have:=HP.out.2.2.2.2.2.2.2.2;omega),← HX.out.2.2.2,← hmm]
     exact HST.out.1.2.1
    ·have h1:=HHi.out.2.2.1
     have h2:=HST.out.2.1
     have h3:=HST.out.1.2.2 (fun k=>N k ∨ k=q)
     rw[HHi.out.2.2.2.2.2.1] at h2
     rw[hmm] at h3
     exact(Fr.trans h1 h2).trans h3
   case measure=>simp[intOf];omega
  ·have hiK:i=K:=by omega
   rw[hiK] at hF hH
   have HE:=lh (And.intro hF (And.intro hH hfr))
   clear hF hH hfr hqk hiK hi
   go_wp2_with fail
   go_end0
   have e1:K=xs.length:=HP.out.2.2.2.2.2.2.2.2.trans HP.out.2.2.2.1
   have e2:js.take K=js:=by rw[HP.out.2.2.2.2.2.2.2.2,List.take_length]
   have h1:=HE.out.1
   have h2:=HE.out.2.1
   rw[e2] at h2
   rw[e1] at h1 h2
   refine⟨rfl,h1,h2,Kp.mono HE.out.2.2 fun k hk h=>?_⟩
   unfold FrS at h ⊢
   split
   ·rename_i hm
    rw[if_pos hm] at h
    exact fun hn=>h (.inl hn)
   ·rename_i hm
    rw[if_neg hm] at h
    exact h
end
section
variable {r:List Value} {j0 j1 j2 j3:Nat} {x0 x1 x2 x3 y0 y1 y2 y3:Int} {s s0 s1 s2 s3:Fs}
theorem idx2 (h0:r[j0]?=some (Value.int .i64 x0)) (h1:r[j1]?=some (Value.int .i64 x1)):∀ i j,[j0,j1][i]?=some j→r[j]?=some (Value.int .i64 ([x0,x1].getD i 0)):=fun i j h=>by
 match i,h with
 | 0,h=>cases h;exact h0
 | 1,h=>cases h;exact h1
theorem idx3 (h0:r[j0]?=some (Value.int .i64 x0)) (h1:r[j1]?=some (Value.int .i64 x1)) (h2:r[j2]?=some (Value.int .i64 x2)):∀ i j,[j0,j1,j2][i]?=some j→r[j]?=some (Value.int .i64 ([x0,x1,x2].getD i 0)):=fun i j h=>by
 match i,h with
 | 0,h=>cases h;exact h0
 | 1,h=>cases h;exact h1
 | 2,h=>cases h;exact h2
theorem idx4 (h0:r[j0]?=some (Value.int .i64 x0)) (h1:r[j1]?=some (Value.int .i64 x1)) (h2:r[j2]?=some (Value.int .i64 x2)) (h3:r[j3]?=some (Value.int .i64 x3)):∀ i j,[j0,j1,j2,j3][i]?=some j→r[j]?=some (Value.int .i64 ([x0,x1,x2,x3].getD i 0)):=fun i j h=>by
 match i,h with
 | 0,h=>cases h;exact h0
 | 1,h=>cases h;exact h1
 | 2,h=>cases h;exact h2
 | 3,h=>cases h;exact h3
theorem stpN2 (h0:(s0,y0)=stp encI Rd.i s x0) (h1:(s1,y1)=stp encI Rd.i s0 x1):stpN s [x0,x1] 2=(s1,[y0,y1]):=by
 show((stp encI Rd.i (stp encI Rd.i s x0).1 x1).1,[(stp encI Rd.i s x0).2,(stp encI Rd.i (stp encI Rd.i s x0).1 x1).2])=_
 rw[← h0,← h1]
theorem stpN3 (h0:(s0,y0)=stp encI Rd.i s x0) (h1:(s1,y1)=stp encI Rd.i s0 x1) (h2:(s2,y2)=stp encI Rd.i s1 x2):stpN s [x0,x1,x2] 3=(s2,[y0,y1,y2]):=by
 show((stp encI Rd.i (stpN s [x0,x1] 2).1 x2).1,(stpN s [x0,x1] 2).2++[(stp encI Rd.i (stpN s [x0,x1] 2).1 x2).2])=_
 rw[stpN2 h0 h1,← h2]
 rfl
theorem stpN4 (h0:(s0,y0)=stp encI Rd.i s x0) (h1:(s1,y1)=stp encI Rd.i s0 x1) (h2:(s2,y2)=stp encI Rd.i s1 x2) (h3:(s3,y3)=stp encI Rd.i s2 x3):stpN s [x0,x1,x2,x3] 4=(s3,[y0,y1,y2,y3]):=by
 show((stp encI Rd.i (stpN s [x0,x1,x2] 3).1 x3).1,(stpN s [x0,x1,x2] 3).2++[(stp encI Rd.i (stpN s [x0,x1,x2] 3).1 x3).2])=_
 rw[stpN3 h0 h1 h2,← h3]
 rfl
theorem md_next {α:Type} {enc:α→List Int} {dec:Rd→α × Rd} {s s':Fs} {x y:α} {m:Bool} (h:(s',y)=stp enc dec s x) (hm:s.md=m):s'.md=m:=by
 have:=stp_md enc dec s x
 rw[← h] at this
 exact this.trans hm
theorem fit_next {α:Type} {enc:α→List Int} {dec:Rd→α × Rd} {s s':Fs} {x y:α} {n:Nat} (h:(s',y)=stp enc dec s x) (hf:s.fit ((enc x).length+n)):s'.fit n:=by
 have:=Fs.fit.next (enc:=enc) (dec:=dec) (x:=x) hf
 rw[← h] at this
 exact this
end
end
section
open Go.RowKit
def CmS (D0:World→Prop) (D1:Value→World→Prop) (D2:World→Prop):List Value→World→Prop
 | []=>D0
 | [v]=>D1 v
 | _=>D2
theorem Below.drew {w0 w:World} {B:Nat} (h:Below B w0 w):Below B w0 w.drew:=⟨h.os,h.tape,h.output,h.size,h.block⟩
section
variable {E:Env} {N:Nat→Prop} {t:TypeId} {b:Nat} {pre post r:List Value} {w:World} {s:Fs} {m:Bool}
theorem Hd.lt (h:Hd E N t b pre post m w r) (hr:r≠[]):b < w.heap.size:=by
 cases r with
 | nil=>exact absurd rfl hr
 | cons v r=>exact cell_lt (h.cell (j:=0) rfl).1
theorem Fm.glt (h:Fm E N w s) (hm:s.md=false):E.g < w.heap.size:=by
 cases s with
 | w l=>cases hm
 | r rd=>obtain⟨cs,hcs⟩:=h.2.1.bkq;exact hcs.lt
end
/-- a world's new block is not the reader -/
theorem nreader {E:Env} {N:Nat→Prop} {w:World} {s:Fs} {q:Nat} (h:Fm E N w s) (hq:w.heap.size≤q):s.md=false→q≠E.g:=fun hm e=>by have:=h.glt hm;omega
end
end Go.Proofs.YtmbnlccafcfbeaaGreatDoor
