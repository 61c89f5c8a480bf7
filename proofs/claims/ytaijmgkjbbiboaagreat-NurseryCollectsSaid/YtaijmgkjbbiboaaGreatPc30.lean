/- Parts of the proof: NurE. -/
import Derived.Test.YtaijmgkjbbiboaaGreatPcA
import Derived.Test.YtaijmgkjbbiboaaGreatPc19
import Derived.Test.YtaijmgkjbbiboaaGreatPc26
import Derived.Test.YtaijmgkjbbiboaaGreatPc27
import Derived.Test.YtaijmgkjbbiboaaGreatPc28
import Derived.Test.YtaijmgkjbbiboaaGreatPc29
set_option linter.unusedVariables false
set_option linter.unusedSimpArgs false
set_option linter.unusedSectionVars false
set_option maxRecDepth 100000
namespace Go.Proofs.YtaijmgkjbbiboaaGreat
section
open Go.RowKit Go.Maps
attribute [local go_sem] Oper.semAt_some
/-- the old space with the first copies' headers -/
def Mm.cl (m:Mm) (l:List Int) (j:Nat):Spc:={ m.old with ws:=m.old.ws++(l.take j).flatMap m.hdW }
theorem Mm.cl_len {m:Mm} {l:List Int} (hl:m.OrdI l) (j:Nat):(((l.take j).flatMap m.hdW).length:Int)=m.need (l.take j):=m.flat_len fun b hb=>Mm.hdW_len (hl.ok b (List.mem_of_mem_take hb)).1
theorem Mm.cl_top {m:Mm} {l:List Int} (hl:m.OrdI l) (j:Nat):(m.cl l j).top=m.old.top+m.need (l.take j):=by
 have:=Mm.cl_len hl j
 unfold Mm.cl Spc.top
 dsimp only
 rw[List.length_append]
 omega
theorem Mm.cl_zero (m:Mm) (l:List Int):m.cl l 0=m.old:=by unfold Mm.cl;simp
theorem Mm.cl_alloc {m:Mm} (ok:m.Ok) {l:List Int} (hl:m.OrdI l) {j:Nat} {a:Int} (ha:l[j]?=some a) :
  (m.old.top+m.need (l.take (j+1))≤m.old.limit→(m.cl l j).alloc (m.hdr a).2 (m.idOf a)=(0,m.cl l (j+1),m.old.top+m.need (l.take j)))∧(¬ m.old.top+m.need (l.take (j+1))≤m.old.limit→(m.cl l j).alloc (m.hdr a).2 (m.idOf a)=(8,m.cl l j,0)):=by
 obtain⟨h1,h2⟩:=Mm.alc_copy ok (hl.ok a (List.mem_of_getElem? ha)).1 (m.cl l j)
 rw[Mm.cl_top hl j] at h1 h2
 rw[m.need_step ha]
 have e:(m.cl l j).limit=m.old.limit:=rfl
 rw[e] at h1 h2
 refine⟨fun h=>?_,fun h=>h2 (by omega)⟩
 rw[h1 (by omega)]
 unfold Mm.cl
 dsimp only
 rw[List.take_add_one,ha,List.flatMap_append,List.append_assoc]
 simp
section
variable {w4 w:World} {B1 B g1 gy gc:Nat} {V1 V2 Vc:Value} {m:Mm} {l:List Int}
def ClI (w4:World) (B gc:Nat) (m:Mm) (l:List Int) (w:World) (j:Nat):Prop:=Below w4.heap.size w4 w∧w4.heap.size≤gc∧∃ V,SpR w B gc (m.cl l j) V∧∀ q,V.ownBlock=some q→w4.heap.size≤q
theorem ClI.plI (h:MR w4 B1 g1 gy V1 V2 m) (hl:m.OrdI l) (hb:Below w4.heap.size w4 w) (hs:SpR w w4.heap.size gc m.old Vc) (hg:w4.heap.size≤gc):PlI w (ClI w4 w4.heap.size gc m l) B1 g1 gy gc V2 m m.old.top m.old.limit l:=by
 refine⟨⟨hb,hg,Vc,by rw[m.cl_zero];exact hs,fun q hq=>(hs.own.lt q hq).1⟩,?_,?_,?_,?_⟩
 ·rintro w1 w2 j ⟨h1,h2,V,h3,h4⟩ hb2
  exact⟨h1.trans (hb2.mono h1.size),h2,V,h3.below hb2,h4⟩
 ·rintro w1 w2 j bk n f hbk ⟨h1,h2,V,h3,h4⟩ hm hk
  have:=hb.size
  refine⟨hk.toBelow h1 h1.size fun q e=>by omega,h2,V,h3.kp hk (fun e=>hm.ne_bk h3.hd e) (fun q hq e=>by subst e;exact hm.ne_own h3.own hq),h4⟩
 ·rintro w1 j ⟨h1,_⟩
  exact⟨m,V1,h.below h1,fun a _=>⟨rfl,rfl⟩⟩
 ·rintro w1 j a ⟨h1,h2,V,h3,h4⟩ hsz ha
  obtain⟨hy,hn⟩:=Mm.cl_alloc h.ok hl ha
  refine(SAlloc_any h3 h1.size (m.hdr a).2 (m.idOf a)).mono ?_
  rintro e w2 ⟨he,⟨V',hv,hvo⟩,hk⟩
  refine⟨⟨_,hk,fun q hq=>?_⟩,fun hf=>?_,fun hf=>?_⟩
  ·rcases hq with rfl | hq
   ·exact⟨_,_,h3.hd,.inl rfl⟩
   ·obtain⟨cs,hc⟩:=h3.own_cells hq
    exact⟨_,cs,hc,.inr rfl⟩
  ·unfold alcV at he
   rw[hy hf] at he hv
   refine⟨he,hk.toBelow h1 h1.size fun q hq=>hq.elim (fun e=>e ▸ h2) fun e=>h4 q e,h2,V',hv,fun q hq=>(hvo q hq).elim (h4 q) fun e=>Nat.le_trans h1.size e⟩
  ·unfold alcV at he
   rw[hn hf] at he hv
   refine⟨he,hk.toBelow h1 h1.size fun q hq=>hq.elim (fun e=>e ▸ h2) fun e=>h4 q e,h2,V',hv,fun q hq=>(hvo q hq).elim (h4 q) fun e=>Nat.le_trans h1.size e⟩
theorem mid_y {m:Mm} {U Z:List Int} (ok:m.Ok) (hlen:((U++Z).length:Int)≤16777216) {a:Int} (ha:m.yng.has a=true):(m.mid U Z).sp a=m.yng∧m.sp a=m.yng:=by
 have h1:=ok.yng_ge ha
 have hb:(m.mid U Z).old.base=0:=ok.ob
 have n1:¬ m.old.has a=true:=fun e=>by have:=ok.old_lt e;omega
 have n2:¬ (m.mid U Z).old.has a=true:=fun e=>by
  have:=Spc.has_iff.1 e
  have h3:(m.mid U Z).old.ws.length=(U++Z).length:=rfl
  omega
 unfold Mm.sp
 rw[if_neg n1,if_neg n2]
 exact⟨rfl,rfl⟩
def OdI (w6:World) (B1 g1 gy:Nat) (V1 V2:Value) (m:Mm) (l:List Int) (w:World) (j:Nat):Prop:=∃ V,MR w B1 g1 gy V V2 (m.mid m.old.ws ((l.take j).flatMap m.hdW))∧(∀ q,V.ownBlock=some q→V1.ownBlock=some q ∨ w6.heap.size≤q)∧Kp (fun k=>k=g1 ∨ V1.ownBlock=some k) w6 w∧m.old.top+m.need (l.take j)≤m.old.limit
theorem OdI.plI {w6:World} (h:MR w6 B1 g1 gy V1 V2 m) (hl:m.OrdI l) (hB:B1≤w6.heap.size) (hf:m.old.top≤m.old.limit):PlI w6 (OdI w6 B1 g1 gy V1 V2 m l) B1 g1 gy g1 V2 m m.old.top m.old.limit l:=by
 refine⟨⟨V1,?_,fun q hq=>.inl hq,Kp.refl _ _,by simp[Mm.need];exact hf⟩,?_,?_,?_,?_⟩
 ·have e:m.mid m.old.ws ((l.take 0).flatMap m.hdW)=m:=by
   unfold Mm.mid
   simp
  rw[e];exact h
 ·rintro w1 w2 j ⟨V,h1,h2,h3,h4⟩ hb
  exact⟨V,h1.below hb,h2,h3.trans (Kp.of_below (S:=fun k=>k=g1 ∨ V1.ownBlock=some k) hb) fun _ _ e=>e,h4⟩
 ·rintro w1 w2 j bk n f hbk ⟨V,h1,h2,h3,h4⟩ hm hk
  exact⟨V,h1.kpN hk (fun hq _ e=>hm.ne_bk hq e),h2,h3.trans hk (fun q hq e=>by omega),h4⟩
 ·rintro w1 j ⟨V,h1,h2,h3,h4⟩
  refine⟨_,V,h1,fun a ha=>?_⟩
  have hlen:=Mm.cl_len hl j
  have hol:=h.ok.ol
  have hob:=h.ok.ob
  have hfit:((m.old.ws++(l.take j).flatMap m.hdW).length:Int)≤16777216:=by
   rw[List.length_append]
   unfold Spc.top at h4
   omega
  have hy:=hl.yng h.ok a ha
  have h0:=(hl.ok a ha).1
  obtain⟨e1,e2⟩:=mid_y h.ok hfit hy
  have hnr:=h.ok.has_near h0 (j:=1) (by omega) (by have:=wH_ge (Mm.hdr_valid h0);omega)
  have hy1:m.yng.has (a+1)=true:=by
   have:=hnr.1
   unfold Mm.has at this
   rw[hnr.2,e2] at this
   exact this
  obtain⟨e3,e4⟩:=mid_y (Z:=(l.take j).flatMap m.hdW) h.ok hfit hy1
  refine⟨by unfold Mm.hdr;rw[e1,e2],?_⟩
  unfold Mm.idOf Mm.at_
  rw[e3,e4]
 ·rintro w1 j a ⟨V,h1,h2,h3,h4⟩ hsz ha
  obtain⟨hy,hn⟩:=Mm.cl_alloc h.ok hl ha
  have h1o:SpR w1 B1 g1 (m.cl l j) V:=h1.o
  refine(SAlloc_any h1o (Nat.le_trans hB h3.size) (m.hdr a).2 (m.idOf a)).mono ?_
  rintro e w2 ⟨he,⟨V',hv,hvo⟩,hk⟩
  have hS:∀ q,(q=g1 ∨ V.ownBlock=some q)→∃ t cs,Bk w1 q t cs∧(t=123 ∨ t=54):=fun q hq=>by
   rcases hq with rfl | hq
   ·exact⟨_,_,h1.o.hd,.inl rfl⟩
   ·obtain⟨cs,hc⟩:=h1.o.own_cells hq
    exact⟨_,cs,hc,.inr rfl⟩
  have hyk:SpR w2 B1 gy m.yng V2:=h1.y.kp hk (fun e=>e.elim (fun e=>h1.gg e.symm) fun e=>(h1.o.own_ne h1.y.hd (by decide)) e) fun q hq e=>e.elim (fun e=>h1.y.own_ne h1.o.hd (by decide) (e ▸ hq)) fun e=>h1.vv q e hq
  have hkk:Kp (fun k=>k=g1 ∨ V1.ownBlock=some k) w6 w2:=h3.trans hk (fun q hq e=>e.elim (fun e=>.inl e) fun e=>(h2 q e).elim .inr fun e=>by omega)
  have hvo2:∀ q,V'.ownBlock=some q→V1.ownBlock=some q ∨ w6.heap.size≤q:=fun q hq=>(hvo q hq).elim (h2 q) fun e=>.inr (Nat.le_trans h3.size e)
  have hvv:∀ q,V'.ownBlock=some q→V2.ownBlock≠some q:=fun q hq e=>(hvo q hq).elim (fun e'=>h1.vv q e' e) fun e'=>by have:=(h1.y.own.lt q e).2;omega
  refine⟨⟨_,hk,hS⟩,fun hf=>?_,fun hf=>?_⟩
  ·unfold alcV at he
   rw[hy hf] at he hv
   exact⟨he,V',⟨hv,hyk,⟨⟨hv.u,hv.b0,hv.lim,hv.l0⟩,h.ok.y,h.ok.ob,h.ok.ol,h.ok.yb⟩,h1.gg,hvv⟩,hvo2,hkk,hf⟩
  ·unfold alcV at he
   rw[hn hf] at he hv
   exact⟨he,V',⟨hv,hyk,⟨⟨hv.u,hv.b0,hv.lim,hv.l0⟩,h.ok.y,h.ok.ob,h.ok.ol,h.ok.yb⟩,h1.gg,hvv⟩,hvo2,hkk,h4⟩
end
section
variable {w:World} {B g:Nat} {s:Spc} {V:Value}
theorem Base_any (h:SpR w B g s V):Calls Tryz.prog 34 #[.pointer (some ⟨g,0,none⟩)] w fun e w'=>e=.returned (.int .i64 s.base)∧w=w':=by
 have c0:w.cell? ⟨g,0,none⟩=some (.int .i64 s.base):=h.hd.cell 0
 clear h
 go_enter Tryz.func34,Tryz.ntmps34
 go_wp2_with fail
 go_ret
 exact⟨rfl,rfl⟩
end
end
end Go.Proofs.YtaijmgkjbbiboaaGreat
