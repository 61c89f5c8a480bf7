/- Parts of the proof: RCol10. -/
import Derived.Test.YtaijmgkjbbiboaaGreatPcA
import Derived.Test.YtaijmgkjbbiboaaGreatPc33
import Derived.Test.YtaijmgkjbbiboaaGreatPc35
set_option linter.unusedVariables false
set_option linter.unusedSimpArgs false
set_option linter.unusedSectionVars false
set_option maxRecDepth 100000
namespace Go.Proofs.YtaijmgkjbbiboaaGreat
section
open Go.RowKit Go.Sort
attribute [local go_sem] Oper.semAt_some onlyN_normal
def RColP (w:World) (C:Col) (e:Ending) (w':World):Prop:=∃ A1 u1 A2 u2 A u v,e=.returned (.tuple #[.agg #[.int .i64 C.m.old.base,.int .i64 C.m.old.limit,.slice A1 C.m.old.ws.length u1,.int .i64 C.m.yng.base,.int .i64 C.m.yng.limit,.slice A2 C.m.yng.ws.length u2],.agg #[.slice A C.cs.length u],v,.int .i64 C.n,.int .i64 C.e])∧RM w' C.m A1 u1 A2 u2∧RC w' C.cs A u∧w'.ownsRow w.heap.size 54 1 v C.out.length (wds C.out)∧Below w.heap.size w w'
theorem RColP.err {w w':World} {m:Mm} {cs:List Int} {A1 A2 A:Option Addr} {u1 u2 u:Nat} (hb:Below w.heap.size w w') (h:RM w m A1 u1 A2 u2) (hr:RC w cs A u) (er:Int):RColP w ⟨er,m,cs,[],0⟩ (.returned (.tuple #[.agg #[.int .i64 m.old.base,.int .i64 m.old.limit,.slice A1 m.old.ws.length u1,.int .i64 m.yng.base,.int .i64 m.yng.limit,.slice A2 m.yng.ws.length u2],.agg #[.slice A cs.length u],.slice none 0 0,.int .i64 0,.int .i64 er])) w' :=
 ⟨A1,u1,A2,u2,A,u,_,rfl,h.below hb,hr.below hb,World.ownsRow_nil _ _ _ _,hb⟩
theorem adds_newR {P:Program} {W:World} {vs:Nat→Value} {w w':World} {T:Value→World→Prop} {hT:∀ v w w',T v w→Below w.heap.size w w'→T v w'} {x:Value} (h:T x w') (hb:Below w.heap.size w w'):Made P (Adds (Ent.of (W:=W) T hT) vs w) (.ok (.value x) w'):=⟨h,hb,(fun k hk=>nomatch hk)⟩
theorem st7_below {B:Nat} {w0 w:World} {p q:Nat} (u0 u1 u2 u3 u4 u5 t0:Value) (h:Below B w0 w) (hp:B≤p) (hq:B≤q):Below B w0 (((((((w.setCell ⟨p,0,none⟩ u0).setCell ⟨p,1,none⟩ u1).setCell ⟨p,2,none⟩ u2).setCell ⟨p,3,none⟩ u3).setCell ⟨p,4,none⟩ u4).setCell ⟨p,5,none⟩ u5).setCell ⟨q,0,none⟩ t0).drew :=
 below_drewN (((((((h.setCell (p:=⟨p,0,none⟩) hp u0).setCell (p:=⟨p,1,none⟩) hp u1).setCell (p:=⟨p,2,none⟩) hp u2).setCell (p:=⟨p,3,none⟩) hp u3).setCell (p:=⟨p,4,none⟩) hp u4).setCell (p:=⟨p,5,none⟩) hp u5).setCell (p:=⟨q,0,none⟩) hq t0) 1
theorem st7_p {w:World} {p q:Nat} {t:TypeId} {x0 x1 x2 x3 x4 x5:Value} (u0 u1 u2 u3 u4 u5 t0:Value) (h:Bk w p t #[x0,x1,x2,x3,x4,x5]) (hne:p≠q):Bk (((((((w.setCell ⟨p,0,none⟩ u0).setCell ⟨p,1,none⟩ u1).setCell ⟨p,2,none⟩ u2).setCell ⟨p,3,none⟩ u3).setCell ⟨p,4,none⟩ u4).setCell ⟨p,5,none⟩ u5).setCell ⟨q,0,none⟩ t0).drew p t #[u0,u1,u2,u3,u4,u5] :=
 (((((((h.set 0 u0).set 1 u1).set 2 u2).set 3 u3).set 4 u4).set 5 u5).far hne t0).drewI
theorem st7_q {w:World} {p q:Nat} {t:TypeId} {x0:Value} (u0 u1 u2 u3 u4 u5 t0:Value) (h:Bk w q t #[x0]) (hne:q≠p):Bk (((((((w.setCell ⟨p,0,none⟩ u0).setCell ⟨p,1,none⟩ u1).setCell ⟨p,2,none⟩ u2).setCell ⟨p,3,none⟩ u3).setCell ⟨p,4,none⟩ u4).setCell ⟨p,5,none⟩ u5).setCell ⟨q,0,none⟩ t0).drew q t #[t0] :=
 (((((((h.far hne u0).far hne u1).far hne u2).far hne u3).far hne u4).far hne u5).set 0 t0).drewI
theorem st7n_p {w:World} {p q:Nat} {t:TypeId} {x0 x1 x2 x3 x4 x5:Value} (u0 u1 u2 u3 u4 u5 t0:Value) (h:Bk w p t #[x0,x1,x2,x3,x4,x5]) (hne:p≠q):Bk (((((((w.setCell ⟨p,0,none⟩ u0).setCell ⟨p,1,none⟩ u1).setCell ⟨p,2,none⟩ u2).setCell ⟨p,3,none⟩ u3).setCell ⟨p,4,none⟩ u4).setCell ⟨p,5,none⟩ u5).setCell ⟨q,0,none⟩ t0) p t #[u0,u1,u2,u3,u4,u5] :=
 (((((((h.set 0 u0).set 1 u1).set 2 u2).set 3 u3).set 4 u4).set 5 u5).far hne t0)
theorem st7n_q {w:World} {p q:Nat} {t:TypeId} {x0:Value} (u0 u1 u2 u3 u4 u5 t0:Value) (h:Bk w q t #[x0]) (hne:q≠p):Bk (((((((w.setCell ⟨p,0,none⟩ u0).setCell ⟨p,1,none⟩ u1).setCell ⟨p,2,none⟩ u2).setCell ⟨p,3,none⟩ u3).setCell ⟨p,4,none⟩ u4).setCell ⟨p,5,none⟩ u5).setCell ⟨q,0,none⟩ t0) q t #[t0] :=
 (((((((h.far hne u0).far hne u1).far hne u2).far hne u3).far hne u4).far hne u5).set 0 t0)
theorem st7_kp3 {w:World} {p q r:Nat} (u0 u1 u2 u3 u4 u5 t0:Value):Kp (fun k=>k=r ∨ k=p ∨ k=q) w (((((((w.setCell ⟨p,0,none⟩ u0).setCell ⟨p,1,none⟩ u1).setCell ⟨p,2,none⟩ u2).setCell ⟨p,3,none⟩ u3).setCell ⟨p,4,none⟩ u4).setCell ⟨p,5,none⟩ u5).setCell ⟨q,0,none⟩ t0) :=
 ((((((((Kp.refl _ w).trans (Kp.setCell (S:=fun k=>k=r ∨ k=p ∨ k=q) _ ⟨p,0,none⟩ u0 (.inr (.inl rfl))) fun _ _ e=>e).trans (Kp.setCell (S:=fun k=>k=r ∨ k=p ∨ k=q) _ ⟨p,1,none⟩ u1 (.inr (.inl rfl))) fun _ _ e=>e).trans (Kp.setCell (S:=fun k=>k=r ∨ k=p ∨ k=q) _ ⟨p,2,none⟩ u2 (.inr (.inl rfl))) fun _ _ e=>e).trans (Kp.setCell (S:=fun k=>k=r ∨ k=p ∨ k=q) _ ⟨p,3,none⟩ u3 (.inr (.inl rfl))) fun _ _ e=>e).trans (Kp.setCell (S:=fun k=>k=r ∨ k=p ∨ k=q) _ ⟨p,4,none⟩ u4 (.inr (.inl rfl))) fun _ _ e=>e).trans (Kp.setCell (S:=fun k=>k=r ∨ k=p ∨ k=q) _ ⟨p,5,none⟩ u5 (.inr (.inl rfl))) fun _ _ e=>e).trans (Kp.setCell (S:=fun k=>k=r ∨ k=p ∨ k=q) _ ⟨q,0,none⟩ t0 (.inr (.inr rfl))) fun _ _ e=>e)
theorem collect_okR (m:Mm) (chk:Int) (cs roots:List Int) (h1:(m.order cs roots).2=false) (h2:chk=0) (h3:¬ (m.old.top+m.need (m.order cs roots).1 > m.old.limit)):m.collect chk cs roots=⟨0,⟨{ m.old with ws:=m.upd (m.order cs roots).1 (m.plc m.old.top (m.order cs roots).1) (m.crossing (cardIn cs)) m.old.ws++(m.order cs roots).1.flatMap (m.cpy (m.order cs roots).1 (m.plc m.old.top (m.order cs roots).1)) },{ m.yng with ws:=[] }⟩,[],roots.map (m.mvd (m.order cs roots).1 (m.plc m.old.top (m.order cs roots).1)),(m.order cs roots).1.length⟩:=by
 unfold Mm.collect
 rw[if_neg (by rw[h1,h2];simp),if_neg h3]
theorem phase2_one {P:Program} {ops:Array Oper} {Q:Exit→Act→World→Prop} {m:Nat} {a:Act} {w:World} {o:Oper} {v:Value} (hm:ops.size=m+1) (ho:ops[m]?=some o) (hg:o.guard=none) (haf:o.after.all (fun e=>decide (e.on < m))=true) (hx:(execOp a.eval o).run P w=.ok (.value v) w) (h:Q .normal (a.put o.dst v) w):Phase2 P ops Q m a w:=by
 intro L hs hall hno f hf
 have hLm:L.getD m true=false:=hno m (Nat.le_refl _) (by omega)
 have hmr:m∈Region.ready .any ops L:=mem_ready.2 ⟨hLm,o,ho,fun e he _=>hall e.on (by simpa using Array.all_eq_true'.1 haf e he)⟩
 have hio:∀ i∈Region.ready .any ops L,i=m:=fun i hi=>by
  have h1:=ready_lt hi
  obtain⟨hun,_⟩:=mem_ready.1 hi
  rcases Nat.lt_or_ge i m with h2 | h2
  ·have h3:=getD_both' h1 (hall i h2)
   rw[h3] at hun
   cases hun
  ·omega
 cases f with
 | zero =>
  have:m∈(List.range ops.size).filter fun i=>!L.getD i true:=List.mem_filter.2 ⟨List.mem_range.2 (by omega),by rw[hLm];rfl⟩
  rw[List.length_eq_zero_iff.1 hf] at this
  cases this
 | succ f =>
  refine⟨fun h0=>(by rw[h0] at hmr;cases hmr),fun i hi=>?_⟩
  obtain rfl:=hio i hi
  have hcnt:=count_step hs hi hf
  unfold wpOp
  rw[ho]
  simp only[]
  rw[if_pos (by simp[Region.wanted,hg])]
  refine .inl ?_
  refine wp_of_made (T:=fun v' w'=>v'=v∧w'=w) (by rw[hx];exact⟨rfl,rfl⟩) fun v' w' hl=>?_
  have h1:=hl.1
  have h2:=hl.2
  rw[h1,h2]
  exact phase2_end hm h (L.setIfInBounds i true) (by simpa using hs) (fun j hj=>by
   by_cases hji:j=i
   ·subst hji
    simp[Array.getD,hs,hm]
   ·exact getD_set_true (hall j (by omega))) (fun j h1 h2=>by omega) _ hcnt
/-- the four blocks of the walk -/
structure Q4 (w:World) (q3 q4 q6 q7:Nat) (m:Mm) (cs:List Int) (A1:Option Addr) (u1:Nat) (A2:Option Addr) (u2:Nat) (A:Option Addr) (u:Nat):Prop where
 h3:Bk w q3 35 #[.int .i64 m.old.base,.int .i64 m.old.limit,.slice A1 m.old.ws.length u1,.int .i64 m.yng.base,.int .i64 m.yng.limit,.slice A2 m.yng.ws.length u2]
 h4:Bk w q4 37 #[.slice A cs.length u]
 h6:Bk w q6 35 #[.int .i64 0,.int .i64 0,.slice none 0 0,.int .i64 0,.int .i64 0,.slice none 0 0]
 h7:Bk w q7 37 #[.slice none 0 0]
theorem Q4.below {w w':World} {q3 q4 q6 q7:Nat} {m:Mm} {cs:List Int} {A1 A2 A:Option Addr} {u1 u2 u:Nat} (h:Q4 w q3 q4 q6 q7 m cs A1 u1 A2 u2 A u) {B:Nat} (hb:Below B w w') (hB:B=w.heap.size):Q4 w' q3 q4 q6 q7 m cs A1 u1 A2 u2 A u:=by
 subst hB
 exact⟨h.h3.below hb h.h3.lt,h.h4.below hb h.h4.lt,h.h6.below hb h.h6.lt,h.h7.below hb h.h7.lt⟩
theorem plc_take (m:Mm) {L:List Int} {j:Nat} (h:j < L.length) (T:Int):(m.plc T L).take (j+1)=(m.plc T L).take j++[T+m.need (L.take j)]:=by
 rw[List.take_add_one,m.plc_get h]
 rfl
theorem need_le32 (m:Mm):∀ l:List Int,m.need l≤32*l.length
 | []=>by unfold Mm.need;simp
 | a::l=>by
  have h1:=wH_bound (m.hdr a).2
  have h2:=need_le32 m l
  unfold Mm.need
  rw[List.length_cons]
  push_cast
  omega
theorem collect_casesR (m:Mm) (chk:Int) (cs roots:List Int):(((m.order cs roots).2=true ∨ chk≠0)→m.collect chk cs roots=⟨11,m,cs,[],0⟩)∧((m.order cs roots).2=false→chk=0→m.old.top+m.need (m.order cs roots).1 > m.old.limit→m.collect chk cs roots=⟨8,m,cs,[],0⟩):=by
 unfold Mm.collect
 exact⟨fun h=>if_pos h,fun h1 h2 h3=>by rw[if_neg (by rw[h1,h2];simp),if_pos h3]⟩
section
variable {w:World} {m:Mm} {A1 A2 A Ar:Option Addr} {u1 u2 u cr:Nat} {cs roots:List Int}
set_option maxHeartbeats 64000000 in
theorem RCollect_any (h:RM w m A1 u1 A2 u2) (ok:m.Ok) (hr:RC w cs A u) (hcl:cs.length≤100000) (hs:Sl w 1 Ar roots.length (wds roots)) (hsc:roots.length≤cr) (hru:∀ x∈roots,U64 x) (hA:∀ b o,Ar=some ⟨b,o,none⟩→b < w.heap.size) (hm:m.size≤40000000) (hrl:roots.length≤1000):Calls Tryz.prog 31 #[.agg #[.int .i64 m.old.base,.int .i64 m.old.limit,.slice A1 m.old.ws.length u1,.int .i64 m.yng.base,.int .i64 m.yng.limit,.slice A2 m.yng.ws.length u2],.agg #[.slice A cs.length u],.slice Ar roots.length cr] w (RColP w (m.collect m.yng.chk cs roots)):=by
 have hHB:Below w.heap.size w ((((w.alloc (.cells #[.int .i64 m.old.base,.int .i64 m.old.limit,.slice A1 m.old.ws.length u1,.int .i64 m.yng.base,.int .i64 m.yng.limit,.slice A2 m.yng.ws.length u2] 35)).alloc (.cells #[.slice A cs.length u] 37)).alloc (.cells #[.int .i64 0,.int .i64 0,.slice none 0 0,.int .i64 0,.int .i64 0,.slice none 0 0] 35)).alloc (.cells #[.slice none 0 0] 37)):=((((Below.refl _ w).alloc (Nat.le_refl _) _).alloc (by simp) _).alloc (by simp;omega) _).alloc (by simp;omega) _
 have HB:=lh hHB
 have HQ3:Hid (Bk ((((w.alloc (.cells #[.int .i64 m.old.base,.int .i64 m.old.limit,.slice A1 m.old.ws.length u1,.int .i64 m.yng.base,.int .i64 m.yng.limit,.slice A2 m.yng.ws.length u2] 35)).alloc (.cells #[.slice A cs.length u] 37)).alloc (.cells #[.int .i64 0,.int .i64 0,.slice none 0 0,.int .i64 0,.int .i64 0,.slice none 0 0] 35)).alloc (.cells #[.slice none 0 0] 37)) w.heap.size 35 #[.int .i64 m.old.base,.int .i64 m.old.limit,.slice A1 m.old.ws.length u1,.int .i64 m.yng.base,.int .i64 m.yng.limit,.slice A2 m.yng.ws.length u2]):=lh ((((Bk.new _ _ _).alloc _).alloc _).alloc _)
 have HQ4:Hid (Bk ((((w.alloc (.cells #[.int .i64 m.old.base,.int .i64 m.old.limit,.slice A1 m.old.ws.length u1,.int .i64 m.yng.base,.int .i64 m.yng.limit,.slice A2 m.yng.ws.length u2] 35)).alloc (.cells #[.slice A cs.length u] 37)).alloc (.cells #[.int .i64 0,.int .i64 0,.slice none 0 0,.int .i64 0,.int .i64 0,.slice none 0 0] 35)).alloc (.cells #[.slice none 0 0] 37)) (w.heap.size+1) 37 #[.slice A cs.length u]):=lh (((Bk.here _ _ _ (by simp)).alloc _).alloc _)
 have HQ6:Hid (Bk ((((w.alloc (.cells #[.int .i64 m.old.base,.int .i64 m.old.limit,.slice A1 m.old.ws.length u1,.int .i64 m.yng.base,.int .i64 m.yng.limit,.slice A2 m.yng.ws.length u2] 35)).alloc (.cells #[.slice A cs.length u] 37)).alloc (.cells #[.int .i64 0,.int .i64 0,.slice none 0 0,.int .i64 0,.int .i64 0,.slice none 0 0] 35)).alloc (.cells #[.slice none 0 0] 37)) (w.heap.size+1+1) 35 #[.int .i64 0,.int .i64 0,.slice none 0 0,.int .i64 0,.int .i64 0,.slice none 0 0]):=lh ((Bk.here _ _ _ (by simp)).alloc _)
 have HQ7:Hid (Bk ((((w.alloc (.cells #[.int .i64 m.old.base,.int .i64 m.old.limit,.slice A1 m.old.ws.length u1,.int .i64 m.yng.base,.int .i64 m.yng.limit,.slice A2 m.yng.ws.length u2] 35)).alloc (.cells #[.slice A cs.length u] 37)).alloc (.cells #[.int .i64 0,.int .i64 0,.slice none 0 0,.int .i64 0,.int .i64 0,.slice none 0 0] 35)).alloc (.cells #[.slice none 0 0] 37)) (w.heap.size+1+1+1) 37 #[.slice none 0 0]):=lh (Bk.here _ _ _ (by simp))
 have H:=lh h
 have HR:=lh hr
 have HOK:=lh ok
 have HRT:=lh (And.intro hs (And.intro hsc (And.intro hru (And.intro hA hrl))))
 have HSZ:=lh (And.intro hm hcl)
 have HCC:=lh (collect_casesR m m.yng.chk cs roots)
 obtain⟨i0,hi,hz0,hz1,hz2⟩:=info_parts i_word10
 have HI:=lh (And.intro hi (And.intro hz0 (And.intro hz1 hz2)))
 obtain⟨j0,hi',hz0',hz1',hz2'⟩:=info_parts i_int2
 have HJ:=lh (And.intro hi' (And.intro hz0' (And.intro hz1' hz2')))
 obtain⟨C,hC⟩:∃ C,C=m.collect m.yng.chk cs roots:=⟨_,rfl⟩
 rw[← hC] at HCC ⊢
 have HC:=lh hC
 clear h hr ok hs hsc hru hA hrl hm hcl hHB hi hz0 hz1 hz2 hi' hz0' hz1' hz2' hC
 go_enter Tryz.func31,Tryz.ntmps31
 go_upto_region 1 with fail
 generalize ((((w.alloc (.cells #[.int .i64 m.old.base,.int .i64 m.old.limit,.slice A1 m.old.ws.length u1,.int .i64 m.yng.base,.int .i64 m.yng.limit,.slice A2 m.yng.ws.length u2] 35)).alloc (.cells #[.slice A cs.length u] 37)).alloc (.cells #[.int .i64 0,.int .i64 0,.slice none 0 0,.int .i64 0,.int .i64 0,.slice none 0 0] 35)).alloc (.cells #[.slice none 0 0] 37))=w0 at *
 obtain⟨q3,hq3⟩:∃ q,q=w.heap.size:=⟨_,rfl⟩
 obtain⟨q4,hq4⟩:∃ q,q=w.heap.size+1:=⟨_,rfl⟩
 obtain⟨q6,hq6⟩:∃ q,q=w.heap.size+1+1:=⟨_,rfl⟩
 obtain⟨q7,hq7⟩:∃ q,q=w.heap.size+1+1+1:=⟨_,rfl⟩
 rw[← hq7] at HQ7
 rw[← hq6] at HQ6
 rw[← hq4] at HQ4
 rw[← hq3] at HQ3
 rw[← hq7,← hq6,← hq4,← hq3]
 have HN:Hid (w.heap.size≤q3∧w.heap.size≤q4∧w.heap.size≤q6∧w.heap.size≤q7∧q6≠q7∧q3≠q6∧q3≠q7∧q4≠q6∧q4≠q7):=lh (by omega)
 have HQ0:Hid (Q4 w0 q3 q4 q6 q7 m cs A1 u1 A2 u2 A u):=lh ⟨HQ3.out,HQ4.out,HQ6.out,HQ7.out⟩
 clear hq3 hq4 hq6 hq7 HQ3 HQ4 HQ6 HQ7
 have cO:=ROrder_any (H.out.below HB.out) HOK.out (HR.out.below HB.out) HSZ.out.2 (HRT.out.1.below HB.out) HRT.out.2.1 HRT.out.2.2.1 (fun b o e=>Nat.lt_of_lt_of_le (HRT.out.2.2.2.1 b o e) HB.out.size) HSZ.out.1 (by have:=HRT.out.2.2.2.2;omega)
 unfold OrdP rmC at cO
 obtain⟨p,hp⟩:∃ p,p=m.order cs roots:=⟨_,rfl⟩
 rw[← hp] at cO HCC
 have hoi:m.OrdI p.1:=by rw[hp];exact m.order_I cs roots
 have hpl:p.1.length≤40000000:=by
  have h1:=hoi.len HOK.out
  have h2:=HSZ.out.1
  unfold Mm.size at h2
  omega
 have HP:=lh (And.intro hp (And.intro hoi hpl))
 clear hp hoi hpl
 have d0:w0.cell? ⟨q3,0,none⟩=some (.int .i64 m.old.base):=HQ0.out.h3.cell 0
 have d1:w0.cell? ⟨q3,1,none⟩=some (.int .i64 m.old.limit):=HQ0.out.h3.cell 1
 have d2:w0.cell? ⟨q3,2,none⟩=some (.slice A1 m.old.ws.length u1):=HQ0.out.h3.cell 2
 have d3:w0.cell? ⟨q3,3,none⟩=some (.int .i64 m.yng.base):=HQ0.out.h3.cell 3
 have d4:w0.cell? ⟨q3,4,none⟩=some (.int .i64 m.yng.limit):=HQ0.out.h3.cell 4
 have d5:w0.cell? ⟨q3,5,none⟩=some (.slice A2 m.yng.ws.length u2):=HQ0.out.h3.cell 5
 have t0:w0.cell? ⟨q4,0,none⟩=some (.slice A cs.length u):=HQ0.out.h4.cell 0
 go_wp2_with fail
 refine cO.mono ?_
 rintro e w1 ⟨v1,rfl,ho1,hb1⟩
 obtain⟨Al,cl,rfl,hcl⟩:=own_shape ho1
 have HQ1:=lh (HQ0.out.below hb1 rfl)
 have HB1:=lh (HB.out.trans (hb1.mono HB.out.size))
 have HL1:=lh (And.intro hcl (own_sl ho1))
 have HA1:Hid (∀ b o,Al=some ⟨b,o,none⟩→b < w1.heap.size):=lh (fun b o e=>(ho1.lt b (by rw[e];rfl)).2)
 clear cO ho1 hb1 hcl d0 d1 d2 d3 d4 d5 t0
 cases hb2:p.2 with
 | true =>
  have hCe:=HCC.out.1 (.inl hb2)
  clear hb2
  go_upto_region 3 with fail
  have e0:w1.cell? ⟨q6,0,none⟩=some (.int .i64 0):=HQ1.out.h6.cell 0
  have e1:w1.cell? ⟨q6,1,none⟩=some (.int .i64 0):=HQ1.out.h6.cell 1
  have e2:w1.cell? ⟨q6,2,none⟩=some (.slice none 0 0):=HQ1.out.h6.cell 2
  have e3:w1.cell? ⟨q6,3,none⟩=some (.int .i64 0):=HQ1.out.h6.cell 3
  have e4:w1.cell? ⟨q6,4,none⟩=some (.int .i64 0):=HQ1.out.h6.cell 4
  have e5:w1.cell? ⟨q6,5,none⟩=some (.slice none 0 0):=HQ1.out.h6.cell 5
  have ef0:w1.frozen? ⟨q6,0,none⟩=false:=HQ1.out.h6.free 0
  have ef1:w1.frozen? ⟨q6,1,none⟩=false:=HQ1.out.h6.free 1
  have ef2:w1.frozen? ⟨q6,2,none⟩=false:=HQ1.out.h6.free 2
  have ef3:w1.frozen? ⟨q6,3,none⟩=false:=HQ1.out.h6.free 3
  have ef4:w1.frozen? ⟨q6,4,none⟩=false:=HQ1.out.h6.free 4
  have ef5:w1.frozen? ⟨q6,5,none⟩=false:=HQ1.out.h6.free 5
  have g0:w1.cell? ⟨q7,0,none⟩=some (.slice none 0 0):=HQ1.out.h7.cell 0
  have gf0:w1.frozen? ⟨q7,0,none⟩=false:=HQ1.out.h7.free 0
  have d0:w1.cell? ⟨q3,0,none⟩=some (.int .i64 m.old.base):=HQ1.out.h3.cell 0
  have d1:w1.cell? ⟨q3,1,none⟩=some (.int .i64 m.old.limit):=HQ1.out.h3.cell 1
  have d2:w1.cell? ⟨q3,2,none⟩=some (.slice A1 m.old.ws.length u1):=HQ1.out.h3.cell 2
  have d3:w1.cell? ⟨q3,3,none⟩=some (.int .i64 m.yng.base):=HQ1.out.h3.cell 3
  have d4:w1.cell? ⟨q3,4,none⟩=some (.int .i64 m.yng.limit):=HQ1.out.h3.cell 4
  have d5:w1.cell? ⟨q3,5,none⟩=some (.slice A2 m.yng.ws.length u2):=HQ1.out.h3.cell 5
  have t0:w1.cell? ⟨q4,0,none⟩=some (.slice A cs.length u):=HQ1.out.h4.cell 0
  have n1:q6≠q7:=HN.out.2.2.2.2.1
  have n2:q7≠q6:=Ne.symm n1
  have n3:q3≠q6:=HN.out.2.2.2.2.2.1
  have n4:q3≠q7:=HN.out.2.2.2.2.2.2.1
  have n5:q4≠q6:=HN.out.2.2.2.2.2.2.2.1
  have n6:q4≠q7:=HN.out.2.2.2.2.2.2.2.2
  have HBZ:=lh (st7_below (p:=q6) (q:=q7) (.int .i64 m.old.base) (.int .i64 m.old.limit) (.slice A1 m.old.ws.length u1) (.int .i64 m.yng.base) (.int .i64 m.yng.limit) (.slice A2 m.yng.ws.length u2) (.slice A cs.length u) HB1.out HN.out.2.2.1 HN.out.2.2.2.1)
  have hzp:=st7_p (q:=q7) (.int .i64 m.old.base) (.int .i64 m.old.limit) (.slice A1 m.old.ws.length u1) (.int .i64 m.yng.base) (.int .i64 m.yng.limit) (.slice A2 m.yng.ws.length u2) (.slice A cs.length u) HQ1.out.h6 n1
  have hzq:=st7_q (p:=q6) (.int .i64 m.old.base) (.int .i64 m.old.limit) (.slice A1 m.old.ws.length u1) (.int .i64 m.yng.base) (.int .i64 m.yng.limit) (.slice A2 m.yng.ws.length u2) (.slice A cs.length u) HQ1.out.h7 n2
  go_region
  generalize (((((((w1.setCell ⟨q6,0,none⟩ (.int .i64 m.old.base)).setCell ⟨q6,1,none⟩ (.int .i64 m.old.limit)).setCell ⟨q6,2,none⟩ (.slice A1 m.old.ws.length u1)).setCell ⟨q6,3,none⟩ (.int .i64 m.yng.base)).setCell ⟨q6,4,none⟩ (.int .i64 m.yng.limit)).setCell ⟨q6,5,none⟩ (.slice A2 m.yng.ws.length u2)).setCell ⟨q7,0,none⟩ (.slice A cs.length u)).drew=wz at *
  clear n1 n2 n3 n4 n5 n6 d0 d1 d2 d3 d4 d5 t0 g0 gf0 e0 ef0 e1 ef1 e2 ef2 e3 ef3 e4 ef4 e5 ef5
  have e0:wz.cell? ⟨q6,0,none⟩=some (.int .i64 m.old.base):=hzp.cell 0
  have e1:wz.cell? ⟨q6,1,none⟩=some (.int .i64 m.old.limit):=hzp.cell 1
  have e2:wz.cell? ⟨q6,2,none⟩=some (.slice A1 m.old.ws.length u1):=hzp.cell 2
  have e3:wz.cell? ⟨q6,3,none⟩=some (.int .i64 m.yng.base):=hzp.cell 3
  have e4:wz.cell? ⟨q6,4,none⟩=some (.int .i64 m.yng.limit):=hzp.cell 4
  have e5:wz.cell? ⟨q6,5,none⟩=some (.slice A2 m.yng.ws.length u2):=hzp.cell 5
  have g0:wz.cell? ⟨q7,0,none⟩=some (.slice A cs.length u):=hzq.cell 0
  clear hzp hzq
  go_simp
  try (rename_i hKK;refine hKK _ _ ?_;clear hKK)
  go_wp2_with fail
  refine bodyPost_ret (v:=.tuple #[.agg #[.int .i64 m.old.base,.int .i64 m.old.limit,.slice A1 m.old.ws.length u1,.int .i64 m.yng.base,.int .i64 m.yng.limit,.slice A2 m.yng.ws.length u2],.agg #[.slice A cs.length u],.slice none 0 0,.int .i64 0,.int .i64 11]) (by simp[results,Tryz.results31,go_sem,e0,e1,e2,e3,e4,e5,g0]) rfl ?_
  rw[hCe]
  exact RColP.err HBZ.out H.out HR.out 11
 | false =>
  have HP2:=lh hb2
  have cK:=RChk_any (H.out.below HB1.out).y
  have d3:w1.cell? ⟨q3,3,none⟩=some (.int .i64 m.yng.base):=HQ1.out.h3.cell 3
  have d4:w1.cell? ⟨q3,4,none⟩=some (.int .i64 m.yng.limit):=HQ1.out.h3.cell 4
  have d5:w1.cell? ⟨q3,5,none⟩=some (.slice A2 m.yng.ws.length u2):=HQ1.out.h3.cell 5
  clear hb2
  by_cases hck:m.yng.chk=0
  case neg =>
   have hCe:=HCC.out.1 (.inr hck)
   have hck2:m.yng.chk=11:=by
    unfold Spc.chk at hck ⊢
    split
    ·rename_i hh
     rw[if_pos hh] at hck
     exact absurd rfl hck
    ·rfl
   rw[hck2] at cK
   clear hck hck2
   go_wp2_with fail
   refine cK.mono ?_
   rintro e w2 ⟨rfl,hbk⟩
   have HQ2:=lh (HQ1.out.below hbk rfl)
   have HB2:=lh (HB1.out.trans (hbk.mono HB1.out.size))
   clear cK hbk d3 d4 d5
   go_upto_region 3 with fail
   have e0:w2.cell? ⟨q6,0,none⟩=some (.int .i64 0):=HQ2.out.h6.cell 0
   have e1:w2.cell? ⟨q6,1,none⟩=some (.int .i64 0):=HQ2.out.h6.cell 1
   have e2:w2.cell? ⟨q6,2,none⟩=some (.slice none 0 0):=HQ2.out.h6.cell 2
   have e3:w2.cell? ⟨q6,3,none⟩=some (.int .i64 0):=HQ2.out.h6.cell 3
   have e4:w2.cell? ⟨q6,4,none⟩=some (.int .i64 0):=HQ2.out.h6.cell 4
   have e5:w2.cell? ⟨q6,5,none⟩=some (.slice none 0 0):=HQ2.out.h6.cell 5
   have ef0:w2.frozen? ⟨q6,0,none⟩=false:=HQ2.out.h6.free 0
   have ef1:w2.frozen? ⟨q6,1,none⟩=false:=HQ2.out.h6.free 1
   have ef2:w2.frozen? ⟨q6,2,none⟩=false:=HQ2.out.h6.free 2
   have ef3:w2.frozen? ⟨q6,3,none⟩=false:=HQ2.out.h6.free 3
   have ef4:w2.frozen? ⟨q6,4,none⟩=false:=HQ2.out.h6.free 4
   have ef5:w2.frozen? ⟨q6,5,none⟩=false:=HQ2.out.h6.free 5
   have g0:w2.cell? ⟨q7,0,none⟩=some (.slice none 0 0):=HQ2.out.h7.cell 0
   have gf0:w2.frozen? ⟨q7,0,none⟩=false:=HQ2.out.h7.free 0
   have d0:w2.cell? ⟨q3,0,none⟩=some (.int .i64 m.old.base):=HQ2.out.h3.cell 0
   have d1:w2.cell? ⟨q3,1,none⟩=some (.int .i64 m.old.limit):=HQ2.out.h3.cell 1
   have d2:w2.cell? ⟨q3,2,none⟩=some (.slice A1 m.old.ws.length u1):=HQ2.out.h3.cell 2
   have d3:w2.cell? ⟨q3,3,none⟩=some (.int .i64 m.yng.base):=HQ2.out.h3.cell 3
   have d4:w2.cell? ⟨q3,4,none⟩=some (.int .i64 m.yng.limit):=HQ2.out.h3.cell 4
   have d5:w2.cell? ⟨q3,5,none⟩=some (.slice A2 m.yng.ws.length u2):=HQ2.out.h3.cell 5
   have t0:w2.cell? ⟨q4,0,none⟩=some (.slice A cs.length u):=HQ2.out.h4.cell 0
   have n1:q6≠q7:=HN.out.2.2.2.2.1
   have n2:q7≠q6:=Ne.symm n1
   have n3:q3≠q6:=HN.out.2.2.2.2.2.1
   have n4:q3≠q7:=HN.out.2.2.2.2.2.2.1
   have n5:q4≠q6:=HN.out.2.2.2.2.2.2.2.1
   have n6:q4≠q7:=HN.out.2.2.2.2.2.2.2.2
   have HBZ:=lh (st7_below (p:=q6) (q:=q7) (.int .i64 m.old.base) (.int .i64 m.old.limit) (.slice A1 m.old.ws.length u1) (.int .i64 m.yng.base) (.int .i64 m.yng.limit) (.slice A2 m.yng.ws.length u2) (.slice A cs.length u) HB2.out HN.out.2.2.1 HN.out.2.2.2.1)
   have hzp:=st7_p (q:=q7) (.int .i64 m.old.base) (.int .i64 m.old.limit) (.slice A1 m.old.ws.length u1) (.int .i64 m.yng.base) (.int .i64 m.yng.limit) (.slice A2 m.yng.ws.length u2) (.slice A cs.length u) HQ2.out.h6 n1
   have hzq:=st7_q (p:=q6) (.int .i64 m.old.base) (.int .i64 m.old.limit) (.slice A1 m.old.ws.length u1) (.int .i64 m.yng.base) (.int .i64 m.yng.limit) (.slice A2 m.yng.ws.length u2) (.slice A cs.length u) HQ2.out.h7 n2
   go_region
   generalize (((((((w2.setCell ⟨q6,0,none⟩ (.int .i64 m.old.base)).setCell ⟨q6,1,none⟩ (.int .i64 m.old.limit)).setCell ⟨q6,2,none⟩ (.slice A1 m.old.ws.length u1)).setCell ⟨q6,3,none⟩ (.int .i64 m.yng.base)).setCell ⟨q6,4,none⟩ (.int .i64 m.yng.limit)).setCell ⟨q6,5,none⟩ (.slice A2 m.yng.ws.length u2)).setCell ⟨q7,0,none⟩ (.slice A cs.length u)).drew=wz at *
   clear n1 n2 n3 n4 n5 n6 d0 d1 d2 d3 d4 d5 t0 g0 gf0 e0 ef0 e1 ef1 e2 ef2 e3 ef3 e4 ef4 e5 ef5
   have e0:wz.cell? ⟨q6,0,none⟩=some (.int .i64 m.old.base):=hzp.cell 0
   have e1:wz.cell? ⟨q6,1,none⟩=some (.int .i64 m.old.limit):=hzp.cell 1
   have e2:wz.cell? ⟨q6,2,none⟩=some (.slice A1 m.old.ws.length u1):=hzp.cell 2
   have e3:wz.cell? ⟨q6,3,none⟩=some (.int .i64 m.yng.base):=hzp.cell 3
   have e4:wz.cell? ⟨q6,4,none⟩=some (.int .i64 m.yng.limit):=hzp.cell 4
   have e5:wz.cell? ⟨q6,5,none⟩=some (.slice A2 m.yng.ws.length u2):=hzp.cell 5
   have g0:wz.cell? ⟨q7,0,none⟩=some (.slice A cs.length u):=hzq.cell 0
   clear hzp hzq
   go_simp
   try (rename_i hKK;refine hKK _ _ ?_;clear hKK)
   go_wp2_with fail
   refine bodyPost_ret (v:=.tuple #[.agg #[.int .i64 m.old.base,.int .i64 m.old.limit,.slice A1 m.old.ws.length u1,.int .i64 m.yng.base,.int .i64 m.yng.limit,.slice A2 m.yng.ws.length u2],.agg #[.slice A cs.length u],.slice none 0 0,.int .i64 0,.int .i64 11]) (by simp[results,Tryz.results31,go_sem,e0,e1,e2,e3,e4,e5,g0]) rfl ?_
   rw[hCe]
   exact RColP.err HBZ.out H.out HR.out 11
  case pos =>
   rw[hck] at cK
   have HCK:=lh hck
   clear hck
   go_wp2_with fail
   refine cK.mono ?_
   rintro e w2 ⟨rfl,hbk⟩
   have HQ2:=lh (HQ1.out.below hbk rfl)
   have HB2:=lh (HB1.out.trans (hbk.mono HB1.out.size))
   have HL2:=lh (And.intro HL1.out.1 (HL1.out.2.below hbk))
   have HA2:Hid (∀ b o,Al=some ⟨b,o,none⟩→b < w2.heap.size):=lh (fun b o e=>Nat.lt_of_lt_of_le (HA1.out b o e) hbk.size)
   clear cK hbk d3 d4 d5 HQ1 HB1 HL1 HA1
   go_upto_region 4 with fail
   have hbe:Below w2.heap.size w2 (w2.alloc (.cells #[] 3)):=(Below.refl _ _).alloc (Nat.le_refl _) _
   have HOE:Hid ((w2.alloc (.cells #[] 3)).ownsRow w2.heap.size 3 1 (.slice (some ⟨w2.heap.size,0,none⟩) 0 0) 0 []):=lh (ownEmpty 1 (Bk.new _ _ _) (Nat.le_refl _))
   have cT:=RTop_any (H.out.below (HB2.out.trans (hbe.mono HB2.out.size))).o
   unfold rsV at cT
   obtain⟨T,hT⟩:∃ T,T=m.old.top:=⟨_,rfl⟩
   rw[← hT] at cT
   have HT:Hid (T=m.old.top∧0≤T∧T≤16777216∧T=(m.old.ws.length:Int)∧m.old.limit≤16777216):=lh (by
    have h1:=HOK.out.ob
    have h2:=HOK.out.o.lim
    have h3:=HOK.out.ol
    unfold Spc.top at hT
    exact⟨hT,by omega,by omega,by omega,h3⟩)
   have hqe:=HQ2.out.below hbe rfl
   have d0:(w2.alloc (.cells #[] 3)).cell? ⟨q3,0,none⟩=some (.int .i64 m.old.base):=hqe.h3.cell 0
   have d1:(w2.alloc (.cells #[] 3)).cell? ⟨q3,1,none⟩=some (.int .i64 m.old.limit):=hqe.h3.cell 1
   have d2:(w2.alloc (.cells #[] 3)).cell? ⟨q3,2,none⟩=some (.slice A1 m.old.ws.length u1):=hqe.h3.cell 2
   have HBE:=lh hbe
   clear hT hbe hqe
   go_wp2_with fail
   refine cT.mono ?_
   rintro e w3 ⟨rfl,hb3⟩
   have HO3:=lh (own_local HOE.out fun q hq=>hb3.block q (HOE.out.lt q hq).2)
   have HB23:=lh (HBE.out.trans (hb3.mono HBE.out.size))
   have hpl:=HP.out.2.2
   clear cT hb3 d0 d1 d2 HOE HBE
   go_wp2_with fail
   go_loopw [13,14,15] (fun tv tp ix wr=>∃ j:Nat,ix=.int .i64 (j:Int)∧tp=.int .i64 (T+m.need (p.1.take j))∧j≤p.1.length∧wr.ownsRow w2.heap.size 3 1 tv j (ints ((m.plc T p.1).take j))∧Below w2.heap.size w2 wr) (fun _ _ ix _=>p.1.length - (intOf ix).toNat)
   case atStart =>
    have e0:T+m.need (p.1.take 0)=T:=by
     rw[List.take_zero]
     show T+(0:Int)=T
     omega
    exact⟨0,rfl,by rw[e0],Nat.zero_le _,HO3.out,HB23.out⟩
   case round =>
    obtain⟨j,rfl,rfl,hj,hown,hb⟩:=hrel
    have HOJ:=lh hown
    have HBJ:=lh hb
    have HQJ:=lh (HQ2.out.below hb rfl)
    have HBW:=lh (HB2.out.trans (hb.mono HB2.out.size))
    obtain⟨At,ct,rfl,hct⟩:=own_shape hown
    by_cases hlt:j < p.1.length
    ·have hx:p.1[j]?=some p.1[j]:=List.getElem?_eq_getElem hlt
     have h0:=(HP.out.2.1.ok _ (List.mem_of_getElem? hx)).1
     have hnd:=m.need_step hx
     have hnn:=m.need_nn (p.1.take j)
     have hnl:=need_le32 m (p.1.take j)
     rw[List.length_take] at hnl
     have hwb:=wH_bound (m.hdr p.1[j]).2
     have cH:=fun(w':World) (hb':Below wr.heap.size wr w')=>RHeader_yes (H.out.below (HBW.out.trans (hb'.mono HBW.out.size))) p.1[j] h0
     unfold rmV at cH
     have hpt:=plc_take m hlt T
     obtain⟨bb,oo,hA,hbl,hc⟩:=(HL2.out.2.below hb).2.resolve_left (by omega)
     have hcj:wr.cell? ⟨bb,oo+j,none⟩=some (.int .i64 p.1[j]):=hc j _ (ints_get hx)
     have HE1:=lh (And.intro hbl hcj)
     have hcl2:=HL2.out.1
     subst hA
     have hjc:j < cl:=by omega
     generalize p.1[j]=a at *
     obtain⟨⟨er,hk,hc_,hf⟩,hhd⟩:∃ q:Int × Hdr,q=m.hdr a:=⟨_,rfl⟩
     rw[← hhd] at hnd h0 hwb
     simp only[← hhd] at cH
     dsimp only at hnd h0 hwb
     obtain⟨N,hN⟩:∃ N,N=m.need (p.1.take j):=⟨_,rfl⟩
     rw[← hN] at hnd hnn hnl hpt
     obtain⟨wh,hwh⟩:∃ wh,wh=wH ⟨hk,hc_,hf⟩:=⟨_,rfl⟩
     rw[← hwh] at hnd hwb
     have cW:=fun w=>RWords_of ⟨hk,hc_,hf⟩ w
     simp only[← hwh] at cW
     have HND:=lh hnd
     have HPT:Hid (ints ((m.plc T p.1).take (j+1))=ints ((m.plc T p.1).take j)++[.int .i64 (T+N)]):=lh (by rw[hpt];simp[ints])
     have hTb:=HT.out.2.1
     have hTc:=HT.out.2.2.1
     have hw1:IntKind.i64.wrap (T+N+wh)=T+N+wh:=IntWalk.i64_in _ (by omega)
     rw[← hN]
     have HCH:=lh cH
     have HXJ:=lh HQJ.out.h3
     clear cH hb hx h0 hnd hnn hnl hbl hc hcj hhd hN hwh hwb hpt hown
     go_upto_region 8 with fail
     refine wp_region_addsF0 10 (fun i=>([[],[],[],[1,2],[3],[0,4],[5],[6],[6],[]]:List (List Nat)).getD i []) [8] (EL [Ent.val (.agg #[.int .i64 m.old.base,.int .i64 m.old.limit,.slice A1 m.old.ws.length u1,.int .i64 m.yng.base,.int .i64 m.yng.limit,.slice A2 m.yng.ws.length u2]),Ent.val (.slice (some ⟨bb,oo,none⟩) p.1.length cl),Ent.val (.int .i64 (j:Int)),Ent.val (.pointer (some ⟨bb,oo+j,none⟩)),Ent.val (.int .i64 a),Ent.val (.tuple #[.agg #[.int .i64 hk,.int .i64 hc_,.int .i64 hf],.int .i64 0]),Ent.val (.tuple #[.agg #[.int .i64 hk,.int .i64 hc_,.int .i64 hf],.int .i64 0]),Ent.val (.agg #[.int .i64 hk,.int .i64 hc_,.int .i64 hf]),Ent.val (.int .i64 0),Ent.blk 58 #[.int .i64 0,.int .i64 0,.int .i64 0]]) (by kernel_rfl) (by kernel_rfl) (by kernel_rfl) (by kernel_rfl) (by kernel_rfl) (by rfl) ?_ ?_
     ·intro i hi o ho vs w5 hb1 hgr
      rcases (show i=0 ∨ i=1 ∨ i=2 ∨ i=3 ∨ i=4 ∨ i=5 ∨ i=6 ∨ i=7 ∨ i=8 ∨ i=9 by omega) with rfl | rfl | rfl | rfl | rfl | rfl | rfl | rfl | rfl | rfl <;> cases ho
      ·clear hgr
       change Made _ (Adds _ _ _) (Sem.run _ (execOp (Act.eval (frm _ _ _ [])) _) _)
       simp only[frm]
       have hbk:=HXJ.out.below hb1 HXJ.out.lt
       have c0:w5.cell? ⟨q3,0,none⟩=some (.int .i64 m.old.base):=hbk.cell 0
       have c1:w5.cell? ⟨q3,1,none⟩=some (.int .i64 m.old.limit):=hbk.cell 1
       have c2:w5.cell? ⟨q3,2,none⟩=some (.slice A1 m.old.ws.length u1):=hbk.cell 2
       have c3:w5.cell? ⟨q3,3,none⟩=some (.int .i64 m.yng.base):=hbk.cell 3
       have c4:w5.cell? ⟨q3,4,none⟩=some (.int .i64 m.yng.limit):=hbk.cell 4
       have c5:w5.cell? ⟨q3,5,none⟩=some (.slice A2 m.yng.ws.length u2):=hbk.cell 5
       clear hbk
       go_simp
       exact adds_val rfl
      ·clear hgr
       change Made _ (Adds _ _ _) (Sem.run _ (execOp (Act.eval (frm _ _ _ [])) _) _)
       simp only[frm]
       go_simp
       exact adds_val rfl
      ·clear hgr
       change Made _ (Adds _ _ _) (Sem.run _ (execOp (Act.eval (frm _ _ _ [])) _) _)
       simp only[frm]
       go_simp
       exact adds_val rfl
      ·have h1:vs 1=_:=hgr 1 (by decide)
       have h2:vs 2=_:=hgr 2 (by decide)
       clear hgr
       change Made _ (Adds _ _ _) (Sem.run _ (execOp (Act.eval (Act.put (Act.put (frm _ _ _ []) (some 58) (vs 2)) (some 57) (vs 1))) _) _)
       simp only[frm,h1,h2]
       go_simp
       exact adds_val rfl
      ·have h3:vs 3=_:=hgr 3 (by decide)
       clear hgr
       change Made _ (Adds _ _ _) (Sem.run _ (execOp (Act.eval (Act.put (frm _ _ _ []) (some 59) (vs 3))) _) _)
       simp only[frm,h3]
       have e4:w5.cell? ⟨bb,oo+j,none⟩=some (.int .i64 a):=((bcell hb1).1 _ _ HE1.out.1).trans HE1.out.2
       go_simp
       exact adds_val rfl
      ·have h0:vs 0=_:=hgr 0 (by decide)
       have h4:vs 4=_:=hgr 4 (by decide)
       clear hgr
       change Made _ (Adds _ _ _) (Sem.run _ (execOp (Act.eval (Act.put (Act.put (frm _ _ _ []) (some 60) (vs 4)) (some 56) (vs 0))) _) _)
       simp only[frm,h0,h4]
       have cM:=HCH.out _ hb1
       go_simp
       exact adds_below cM
      ·have h5:vs 5=_:=hgr 5 (by decide)
       clear hgr
       change Made _ (Adds _ _ _) (Sem.run _ (execOp (Act.eval (Act.put (frm _ _ _ []) (some 61) (vs 5))) _) _)
       simp only[frm,h5]
       go_simp
       exact adds_val rfl
      ·have h6:vs 6=_:=hgr 6 (by decide)
       clear hgr
       change Made _ (Adds _ _ _) (Sem.run _ (execOp (Act.eval (Act.put (frm _ _ _ []) (some 55) (vs 6))) _) _)
       simp only[frm,h6]
       go_simp
       exact adds_val rfl
      ·have h6:vs 6=_:=hgr 6 (by decide)
       clear hgr
       change Made _ (Adds _ _ _) (Sem.run _ (execOp (Act.eval (Act.put (frm _ _ _ []) (some 55) (vs 6))) _) _)
       simp only[frm,h6]
       go_simp
       exact adds_val rfl
      ·clear hgr
       change Made _ (Adds _ _ _) (Sem.run _ (execOp (Act.eval (frm _ _ _ [])) _) _)
       simp only[frm]
       go_simp
       exact adds_blk
     intro vs w5 hb1 hall hap
     obtain⟨⟨g9,h9,k9⟩,q9⟩:=hall 9 (by omega)
     have r9:wr.heap.size≤g9∧g9 < w5.heap.size:=q9 g9 (by rw[h9];rfl)
     clear q9
     have h7:vs 7=_:=(hall 7 (by omega)).1
     have h8:vs 8=_:=(hall 8 (by omega)).1
     clear hall hap
     change wpList _ _ _ [_,_] (Act.put (Act.put (Act.put (Act.put (Act.put (Act.put (Act.put (Act.put (Act.put (Act.put (frm _ _ _ []) (some 16) (vs 9)) (some 63) (vs 8)) (some 62) (vs 7)) (some 55) (vs 6)) (some 61) (vs 5)) (some 60) (vs 4)) (some 59) (vs 3)) (some 58) (vs 2)) (some 57) (vs 1)) (some 56) (vs 0)) _
     simp only[frm,h7,h8,h9]
     have HB9:=lh hb1
     have HK9:=lh k9
     have hr10:=r9
     have d0:w5.cell? ⟨g9,0,none⟩=some (.int .i64 0):=k9.cell 0
     have d1:w5.cell? ⟨g9,1,none⟩=some (.int .i64 0):=k9.cell 1
     have d2:w5.cell? ⟨g9,2,none⟩=some (.int .i64 0):=k9.cell 2
     have f0:=k9.free 0
     have f1:=k9.free 1
     have f2:=k9.free 2
     clear hb1 k9 r9 h7 h8 h9
     go_wp2_with fail
     have hbz:Below wr.heap.size wr (((w5.setCell ⟨g9,0,none⟩ (.int .i64 hk)).setCell ⟨g9,1,none⟩ (.int .i64 hc_)).setCell ⟨g9,2,none⟩ (.int .i64 hf)):=below_set3 HB9.out (by omega) _ _ _
     have HBZ:=lh hbz
     have HKZ:=lh (HK9.out.set3 (.int .i64 hk) (.int .i64 hc_) (.int .i64 hf))
     have HGZ:Hid (wr.heap.size≤g9):=lh hr10.1
     clear hbz HB9 HK9 hr10 d0 d1 d2 f0 f1 f2
     obtain⟨gh,hgh⟩:∃ gh,gh=g9:=⟨_,rfl⟩
     generalize ((w5.setCell ⟨g9,0,none⟩ (.int .i64 hk)).setCell ⟨g9,1,none⟩ (.int .i64 hc_)).setCell ⟨g9,2,none⟩ (.int .i64 hf)=w6 at *
     rw[← hgh] at HKZ HGZ ⊢
     clear hgh
     try rw[onlyN_normal]
     have HO6:=lh (own_local HOJ.out fun q hq=>HBZ.out.block q (HOJ.out.lt q hq).2)
     have HBJ6:=lh (HBJ.out.trans (HBZ.out.mono HBJ.out.size))
     have hsz6:=HBJ6.out.size
     clear HOJ HBJ HQJ HBW HXJ HCH HE1
     go_wp2_with (at_builtin;refine wpList_append_own_at _ rfl (.tmp 64) (.tmp 66) 23 rfl w2.heap.size 3 j0 (.int .i64 0) 1 8 Tryz.underlying23 HJ.out.1 HJ.out.2.1 HJ.out.2.2.1 HJ.out.2.2.2 rfl (by decide) _ j _ rfl (HO6.out.alloc _) ⟨w6.heap.size,0,none⟩ 1 1 [.int .i64 (T+N)] rfl rfl (cell_one_new _ _ _) (by simp[Value.oneCell']) (by unfold maxLen;omega) (by omega) (by simp;omega) ?_;intro v7 w7 hown7 hg7 _ hloc7;have HO7:=lh hown7;have HB7:=lh ((HBJ6.out.alloc (by omega) (.cells #[.int .i64 (T+N)] 3)).grown hg7 (by simp;omega) (fun k hk=>(HO6.out.lt k hk).1));have hk7:=(HKZ.out.alloc (.cells #[.int .i64 (T+N)] 3)).grown hg7 (fun e=>ownRow_bk HO6.out HKZ.out (by decide) e.symm);have a0:w7.cell? ⟨gh,0,none⟩=some (.int .i64 hk):=hk7.cell 0;have a1:w7.cell? ⟨gh,1,none⟩=some (.int .i64 hc_):=hk7.cell 1;have a2:w7.cell? ⟨gh,2,none⟩=some (.int .i64 hf):=hk7.cell 2;clear hown7 hg7 hloc7 hk7)
     refine(cW _).mono ?_
     rintro e w8 ⟨rfl,hb8⟩
     have HO8:=lh (own_local HO7.out fun q hq=>hb8.block q (HO7.out.lt q hq).2)
     have HB8:=lh (HB7.out.trans (hb8.mono HB7.out.size))
     clear cW hb8 a0 a1 a2
     go_wp2_with fail
     go_roundw
     case rel=>exact⟨j+1,by go_num,by rw[HND.out,show T+(N+wh)=T+N+wh by omega],by omega,by rw[HPT.out];exact HO8.out,HB8.out⟩
     case measure=>simp[intOf];omega
    ·have hjT:p.1.length=j:=by omega
     subst hjT
     rw[List.take_of_length_le (Nat.le_refl _)]
     have hplc:(m.plc T p.1).take p.1.length=m.plc T p.1:=List.take_of_length_le (by rw[m.plc_len];exact Nat.le_refl _)
     rw[hplc] at HOJ
     have HL3:=lh (And.intro HL2.out.1 (HL2.out.2.below hb))
     obtain⟨N,hN⟩:∃ N,N=m.need p.1:=⟨_,rfl⟩
     have HNN:=lh hN
     rw[← hN]
     have e1:wr.cell? ⟨q3,1,none⟩=some (.int .i64 m.old.limit):=HQJ.out.h3.cell 1
     by_cases hbig:T+N > m.old.limit
     case pos =>
      have hCe:=HCC.out.2 HP2.out HCK.out (by have:=HT.out.1;rw[← hN];omega)
      have dgt:decide (T+N > m.old.limit)=true:=decide_eq_true hbig
      clear hbig hN hb hown hplc
      go_upto_region 12 with fail
      clear e1 dgt
      have e0:wr.cell? ⟨q6,0,none⟩=some (.int .i64 0):=HQJ.out.h6.cell 0
      have e1:wr.cell? ⟨q6,1,none⟩=some (.int .i64 0):=HQJ.out.h6.cell 1
      have e2:wr.cell? ⟨q6,2,none⟩=some (.slice none 0 0):=HQJ.out.h6.cell 2
      have e3:wr.cell? ⟨q6,3,none⟩=some (.int .i64 0):=HQJ.out.h6.cell 3
      have e4:wr.cell? ⟨q6,4,none⟩=some (.int .i64 0):=HQJ.out.h6.cell 4
      have e5:wr.cell? ⟨q6,5,none⟩=some (.slice none 0 0):=HQJ.out.h6.cell 5
      have ef0:wr.frozen? ⟨q6,0,none⟩=false:=HQJ.out.h6.free 0
      have ef1:wr.frozen? ⟨q6,1,none⟩=false:=HQJ.out.h6.free 1
      have ef2:wr.frozen? ⟨q6,2,none⟩=false:=HQJ.out.h6.free 2
      have ef3:wr.frozen? ⟨q6,3,none⟩=false:=HQJ.out.h6.free 3
      have ef4:wr.frozen? ⟨q6,4,none⟩=false:=HQJ.out.h6.free 4
      have ef5:wr.frozen? ⟨q6,5,none⟩=false:=HQJ.out.h6.free 5
      have g0:wr.cell? ⟨q7,0,none⟩=some (.slice none 0 0):=HQJ.out.h7.cell 0
      have gf0:wr.frozen? ⟨q7,0,none⟩=false:=HQJ.out.h7.free 0
      have d0:wr.cell? ⟨q3,0,none⟩=some (.int .i64 m.old.base):=HQJ.out.h3.cell 0
      have d1:wr.cell? ⟨q3,1,none⟩=some (.int .i64 m.old.limit):=HQJ.out.h3.cell 1
      have d2:wr.cell? ⟨q3,2,none⟩=some (.slice A1 m.old.ws.length u1):=HQJ.out.h3.cell 2
      have d3:wr.cell? ⟨q3,3,none⟩=some (.int .i64 m.yng.base):=HQJ.out.h3.cell 3
      have d4:wr.cell? ⟨q3,4,none⟩=some (.int .i64 m.yng.limit):=HQJ.out.h3.cell 4
      have d5:wr.cell? ⟨q3,5,none⟩=some (.slice A2 m.yng.ws.length u2):=HQJ.out.h3.cell 5
      have t0:wr.cell? ⟨q4,0,none⟩=some (.slice A cs.length u):=HQJ.out.h4.cell 0
      have n1:q6≠q7:=HN.out.2.2.2.2.1
      have n2:q7≠q6:=Ne.symm n1
      have n3:q3≠q6:=HN.out.2.2.2.2.2.1
      have n4:q3≠q7:=HN.out.2.2.2.2.2.2.1
      have n5:q4≠q6:=HN.out.2.2.2.2.2.2.2.1
      have n6:q4≠q7:=HN.out.2.2.2.2.2.2.2.2
      have HBZ:=lh (st7_below (p:=q6) (q:=q7) (.int .i64 m.old.base) (.int .i64 m.old.limit) (.slice A1 m.old.ws.length u1) (.int .i64 m.yng.base) (.int .i64 m.yng.limit) (.slice A2 m.yng.ws.length u2) (.slice A cs.length u) HBW.out HN.out.2.2.1 HN.out.2.2.2.1)
      have hzp:=st7_p (q:=q7) (.int .i64 m.old.base) (.int .i64 m.old.limit) (.slice A1 m.old.ws.length u1) (.int .i64 m.yng.base) (.int .i64 m.yng.limit) (.slice A2 m.yng.ws.length u2) (.slice A cs.length u) HQJ.out.h6 n1
      have hzq:=st7_q (p:=q6) (.int .i64 m.old.base) (.int .i64 m.old.limit) (.slice A1 m.old.ws.length u1) (.int .i64 m.yng.base) (.int .i64 m.yng.limit) (.slice A2 m.yng.ws.length u2) (.slice A cs.length u) HQJ.out.h7 n2
      go_region
      generalize (((((((wr.setCell ⟨q6,0,none⟩ (.int .i64 m.old.base)).setCell ⟨q6,1,none⟩ (.int .i64 m.old.limit)).setCell ⟨q6,2,none⟩ (.slice A1 m.old.ws.length u1)).setCell ⟨q6,3,none⟩ (.int .i64 m.yng.base)).setCell ⟨q6,4,none⟩ (.int .i64 m.yng.limit)).setCell ⟨q6,5,none⟩ (.slice A2 m.yng.ws.length u2)).setCell ⟨q7,0,none⟩ (.slice A cs.length u)).drew=wz at *
      clear n1 n2 n3 n4 n5 n6 d0 d1 d2 d3 d4 d5 t0 g0 gf0 e0 ef0 e1 ef1 e2 ef2 e3 ef3 e4 ef4 e5 ef5
      have e0:wz.cell? ⟨q6,0,none⟩=some (.int .i64 m.old.base):=hzp.cell 0
      have e1:wz.cell? ⟨q6,1,none⟩=some (.int .i64 m.old.limit):=hzp.cell 1
      have e2:wz.cell? ⟨q6,2,none⟩=some (.slice A1 m.old.ws.length u1):=hzp.cell 2
      have e3:wz.cell? ⟨q6,3,none⟩=some (.int .i64 m.yng.base):=hzp.cell 3
      have e4:wz.cell? ⟨q6,4,none⟩=some (.int .i64 m.yng.limit):=hzp.cell 4
      have e5:wz.cell? ⟨q6,5,none⟩=some (.slice A2 m.yng.ws.length u2):=hzp.cell 5
      have g0:wz.cell? ⟨q7,0,none⟩=some (.slice A cs.length u):=hzq.cell 0
      clear hzp hzq
      go_simp
      try (rename_i hKK;refine hKK _ _ ?_;clear hKK)
      go_wp2_with fail
      refine bodyPost_ret (v:=.tuple #[.agg #[.int .i64 m.old.base,.int .i64 m.old.limit,.slice A1 m.old.ws.length u1,.int .i64 m.yng.base,.int .i64 m.yng.limit,.slice A2 m.yng.ws.length u2],.agg #[.slice A cs.length u],.slice none 0 0,.int .i64 0,.int .i64 8]) (by simp[results,Tryz.results31,go_sem,e0,e1,e2,e3,e4,e5,g0]) rfl ?_
      rw[hCe]
      exact RColP.err HBZ.out H.out HR.out 8
     case neg =>
      have HF:Hid (m.old.top+m.need p.1≤m.old.limit):=lh (by have:=HT.out.1;omega)
      have dgt:decide (T+N > m.old.limit)=false:=decide_eq_false hbig
      clear hbig hN hb hown hplc
      go_upto_region 13 with fail
      clear e1 dgt
      obtain⟨x1,hx1⟩:∃ x1,x1=wr:=⟨_,rfl⟩
      subst hx1
      have hwe:(x1.alloc (.cells #[] 54)).ownsRow x1.heap.size 54 1 (.slice (some ⟨x1.heap.size,0,none⟩) 0 0) 0 []:=ownEmpty 1 (Bk.new _ _ _) (Nat.le_refl _)
      have HWE:=lh hwe
      have hwb:Below x1.heap.size x1 (x1.alloc (.cells #[] 54)):=(Below.refl _ _).alloc (Nat.le_refl _) _
      have HWB:=lh hwb
      have HSO:=lh (H.out.o.sl.below (HBW.out.trans (hwb.mono HBW.out.size)))
      have hqe:=HQJ.out.below hwb rfl
      have d2:(x1.alloc (.cells #[] 54)).cell? ⟨q3,2,none⟩=some (.slice A1 m.old.ws.length u1):=hqe.h3.cell 2
      obtain⟨n,hn⟩:∃ n,n=m.old.ws.length:=⟨_,rfl⟩
      have HNW:Hid (n=m.old.ws.length∧n≤16777216):=lh ⟨hn,by have:=HT.out;omega⟩
      rw[← hn] at HSO d2
      have hn16:=HNW.out.2
      clear hwe hwb hqe hn
      go_upto_region 14 with (at_builtin;refine wpList_app rfl (.tmp 79) (.tmp 82) 31 rfl Tryz.underlying31 HI.out.1 HI.out.2.1 HI.out.2.2.1 HI.out.2.2.2 rfl (by decide) (n:=0) (xs:=[]) rfl HWE.out (A:=A1) (m:=n) (c:=u1) (news:=wds m.old.ws) rfl HSO.out (wds_one _) (by unfold maxLen;omega) (by omega) (by simp) ?_;intro v5 w5 ho5 hg5 h45;simp only[Nat.zero_add,List.nil_append] at ho5;have HO5:=lh ho5;have HB5:=lh (HWB.out.grown hg5 (by simp) (fun k hk=>by cases hk;exact Nat.le_refl _));clear ho5 hg5 h45)
      have hb5:=HB5.out
      obtain⟨Aw,cw,rfl,hcw⟩:=own_shape HO5.out
      have HQ5:=lh (HQJ.out.below hb5 rfl)
      have HBW5:=lh (HBW.out.trans (hb5.mono HBW.out.size))
      have HL5:=lh (And.intro HL3.out.1 (HL3.out.2.below hb5))
      have HTS5:=lh (And.intro hct (own_local HOJ.out fun q hq=>hb5.block q (HOJ.out.lt q hq).2))
      have hx1l:∀ b o,At=some ⟨b,o,none⟩→b < x1.heap.size:=fun b o e=>(HOJ.out.lt b (by rw[e];rfl)).2
      have hlow:Hid (w.heap.size≤x1.heap.size):=lh HBW.out.size
      have HBX5:Hid (Below x1.heap.size x1 w5):=lh hb5
      have HBX:=HBW
      have HQX:=HQJ
      have HLX:=HL3
      have HTX:Hid (IS x1 (m.plc T p.1) At ct):=lh ⟨by rw[m.plc_len];exact own_sl HOJ.out,by rw[m.plc_len];exact hct⟩
      have HAT:Hid (∀ b o,At=some ⟨b,o,none⟩→b < x1.heap.size):=lh hx1l
      have HX12:Hid (w2.heap.size≤x1.heap.size):=lh HBJ.out.size
      clear hb5 HWE HWB HSO d2 HQJ HBJ HBW HL3 HOJ hcw hct HB5 hx1l
      have cK:=RRemembered_any (H.out.below HBW5.out) (HR.out.below HBW5.out) HSZ.out.2 HOK.out
      obtain⟨K,hK⟩:∃ K,K=m.crossing (cardIn cs):=⟨_,rfl⟩
      rw[← hK] at cK
      unfold rmV at cK
      have HCR:Hid (m.CrI p.1 K):=lh (by
       rw[hK,HP.out.1]
       exact HOK.out.crI (by rw[← HP.out.1];exact HP2.out))
      have hKl:K.length≤536870912:=by rw[hK];exact HOK.out.crossing_len2 _
      have HKE:=lh (And.intro hK hKl)
      have d0:w5.cell? ⟨q3,0,none⟩=some (.int .i64 m.old.base):=HQ5.out.h3.cell 0
      have d1:w5.cell? ⟨q3,1,none⟩=some (.int .i64 m.old.limit):=HQ5.out.h3.cell 1
      have d2:w5.cell? ⟨q3,2,none⟩=some (.slice A1 m.old.ws.length u1):=HQ5.out.h3.cell 2
      have d3:w5.cell? ⟨q3,3,none⟩=some (.int .i64 m.yng.base):=HQ5.out.h3.cell 3
      have d4:w5.cell? ⟨q3,4,none⟩=some (.int .i64 m.yng.limit):=HQ5.out.h3.cell 4
      have d5:w5.cell? ⟨q3,5,none⟩=some (.slice A2 m.yng.ws.length u2):=HQ5.out.h3.cell 5
      have t0:w5.cell? ⟨q4,0,none⟩=some (.slice A cs.length u):=HQ5.out.h4.cell 0
      clear hK
      go_wp2_with fail
      refine cK.mono ?_
      rintro e w6 ⟨v6,rfl,ho6,hb6⟩
      obtain⟨Ak,ck,rfl,hck⟩:=own_shape ho6
      have HQ6:=lh (HQ5.out.below hb6 rfl)
      have HBW6:=lh (HBW5.out.trans (hb6.mono HBW5.out.size))
      have HBX6:=lh (HBX5.out.trans (hb6.mono HBX5.out.size))
      have HL6:=lh (And.intro HL5.out.1 (HL5.out.2.below hb6))
      have HTS6:=lh (And.intro HTS5.out.1 (own_local HTS5.out.2 fun q hq=>hb6.block q (HTS5.out.2.lt q hq).2))
      have HO6:=lh (own_local HO5.out fun q hq=>hb6.block q (HO5.out.lt q hq).2)
      have HK6:=lh (And.intro hck ho6)
      have HSK:=lh (own_sl ho6)
      have hown5:∀ q,(Value.slice Aw n cw).ownBlock=some q→q < w5.heap.size:=fun q hq=>(HO5.out.lt q hq).2
      have HAK:Hid (∀ b o,Ak=some ⟨b,o,none⟩→¬ (Value.slice Aw n cw).ownBlock=some b):=lh (fun b o e e'=>by
       have h1:=(ho6.lt b (by rw[e];rfl)).1
       have h2:=hown5 b e'
       omega)
      have HOW:Hid (∀ q,(Value.slice Aw n cw).ownBlock=some q→x1.heap.size≤q∧q < w5.heap.size):=lh (fun q hq=>HO5.out.lt q hq)
      clear hown5
      clear cK hb6 ho6 hck d0 d1 d2 d3 d4 d5 t0 HQ5 HBW5 HL5 HTS5 HO5
      go_wp2_with fail
      go_loopw [20] (fun ix wr=>∃ j:Nat,ix=.int .i64 (j:Int)∧j≤K.length∧wr.ownsRow x1.heap.size 54 1 (.slice Aw n cw) n (wds (m.upd p.1 (m.plc T p.1) (K.take j) m.old.ws))∧Kp (fun k=>(Value.slice Aw n cw).ownBlock=some k) w6 wr) (fun ix _=>K.length - (intOf ix).toNat)
      case atStart=>exact⟨0,rfl,Nat.zero_le _,HO6.out,Kp.refl _ _⟩
      case round =>
       obtain⟨j,rfl,hj,hown,hkp⟩:=hrel
       have HOJ:=lh hown
       have HKP:=lh hkp
       by_cases hlt:j < K.length
       ·have hx:K[j]?=some K[j]:=List.getElem?_eq_getElem hlt
        obtain⟨ho,x,hxa,hox,hyx,hmet⟩:=HCR.out.ok _ (List.mem_of_getElem? hx)
        obtain⟨ha0,hax⟩:=Spc.at_zero HOK.out.ob hox
        have hil:=(List.getElem?_eq_some_iff.1 hax).1
        obtain⟨i,hi⟩:∃ i,i=(K[j]).toNat:=⟨_,rfl⟩
        rw[← hi] at hax hil
        rw[← HNW.out.1] at hil
        have hux:=HOK.out.o.u x (List.mem_of_getElem? hax)
        have hnm:K[j] ∉ K.take j:=fun e=>by
         obtain⟨q,hq⟩:=List.getElem?_of_mem e
         have hqj:q < j:=by have:=(List.getElem?_eq_some_iff.1 hq).1;rw[List.length_take] at this;omega
         rw[List.getElem?_take_of_lt hqj] at hq
         have:=(List.getElem?_inj (List.getElem?_eq_some_iff.1 hq).1 HCR.out.nd).1 (hq.trans hx.symm)
         omega
        have hob:=HOK.out.ob
        have hwj:(m.upd p.1 (m.plc T p.1) (K.take j) m.old.ws)[i]?=some x:=by
         rw[m.upd_get p.1 (m.plc T p.1) (K.take j) m.old.ws (HCR.out.nd.sublist (List.take_sublist _ _)) (fun b hb=>(Spc.has_iff.1 (HCR.out.ok b (List.mem_of_mem_take hb)).1).1) i,if_neg,hax]
         rw[hob,Int.zero_add,hi,Int.toNat_of_nonneg ha0]
         exact hnm
        have hstep:m.upd p.1 (m.plc T p.1) (K.take (j+1)) m.old.ws=(m.upd p.1 (m.plc T p.1) (K.take j) m.old.ws).set i (m.mvd p.1 (m.plc T p.1) x):=by
         rw[List.take_add_one,hx]
         show m.upd p.1 (m.plc T p.1) (K.take j++[K[j]]) m.old.ws=_
         rw[Mm.upd_snoc,hob,Int.sub_zero,← hi,hwj]
         rfl
        have hsl:=own_sl hown
        obtain⟨gw0,cap,hV,_,hgw,hgl,hslw⟩:=ownSls hown (by omega)
        injection hV with hv1 hv2 hv3
        subst hv1
        subst hv3
        have hcell:wr.cell? ⟨gw0,i,none⟩=some (.int .u64 x):=by
         obtain⟨b',o',hA,_,hc⟩:=hslw.get (k:=i) hil
         cases hA
         have:=hc i _ (wds_get hwj)
         rwa [Nat.zero_add] at this
        obtain⟨bb,oo,hA,hbl,hc⟩:=(HSK.out.kpN hkp HAK.out).2.resolve_left (by omega)
        have hcj:wr.cell? ⟨bb,oo+j,none⟩=some (.int .i64 K[j]):=hc j _ (ints_get hx)
        have HC1:=lh (And.intro hgl hcell)
        have HE1:=lh (And.intro hbl hcj)
        have hck:=HK6.out.1
        subst hA
        have hjc:j < ck:=by omega
        have HBR:=lh (hkp.toBelow HBW6.out HBW6.out.size (fun k e=>Nat.le_trans hlow.out (HOW.out k e).1))
        have hcut:∀ b,b < x1.heap.size→¬ (Value.slice (some ⟨gw0,0,none⟩) n cw).ownBlock=some b:=fun b hb e=>by have:=(HOW.out b e).1;omega
        have HIL:Hid (IS wr p.1 Al cl):=lh ⟨HL6.out.2.kpN hkp fun b o e=>hcut b (Nat.lt_of_lt_of_le (HA2.out b o e) HX12.out),HL6.out.1⟩
        have HIT:Hid (IS wr (m.plc T p.1) At ct):=lh ⟨by rw[m.plc_len];exact(own_sl HTS6.out.2).kpN hkp fun b o e=>hcut b (HAT.out b o e),by rw[m.plc_len];exact HTS6.out.1⟩
        have HX3:Hid (Bk wr q3 35 #[.int .i64 m.old.base,.int .i64 m.old.limit,.slice A1 m.old.ws.length u1,.int .i64 m.yng.base,.int .i64 m.yng.limit,.slice A2 m.yng.ws.length u2]):=lh (HQ6.out.h3.kp hkp fun e=>ownRow_bk HO6.out HQ6.out.h3 (by decide) e)
        obtain⟨y,hy⟩:∃ y,y=m.mvd p.1 (m.plc T p.1) x:=⟨_,rfl⟩
        have HCM:Hid (∀ w',Below wr.heap.size wr w'→Calls Tryz.prog 76 #[.agg #[.int .i64 m.old.base,.int .i64 m.old.limit,.slice A1 m.old.ws.length u1,.int .i64 m.yng.base,.int .i64 m.yng.limit,.slice A2 m.yng.ws.length u2],.slice Al p.1.length cl,.slice At p.1.length ct,.int .u64 x] w' fun e w''=>e=.returned (.int .u64 y)∧Below w'.heap.size w' w''):=lh (fun w' hb'=>by
         have cM:=Rmoved_any (H.out.below (HBR.out.trans (hb'.mono HBR.out.size))) HOK.out (HIL.out.below hb') (HIT.out.below hb') (m.plc_len _ _) (by have:=HP.out.2.2;omega) hux
         rw[← hy] at cM
         simp only[m.plc_len] at cM
         exact cM)
        rw[← hy] at hstep
        generalize K[j]=a at *
        have hsub:wrap64 (a - m.old.base)=(i:Int):=by rw[hob];unfold wrap64;omega
        have hsub2:IntKind.i64.wrap (a - m.old.base)=(i:Int):=by rw[hob,show a - 0=(i:Int) by omega];exact IntWalk.i64_in _ (by omega)
        have HSUB:=lh (And.intro hsub hsub2)
        have HST:=lh hstep
        have hncw:n≤cw:=by
         obtain⟨_,⟨h2,_⟩ | ⟨g',cap',cur,hv,_,_,_,h6,_⟩⟩:=hown
         ·cases h2
         ·obtain⟨A',c',e',h'⟩:=own_shape HOJ.out
          injection e' with e1 e2 e3
          all_goals omega
        have hicw:i < cw:=by omega
        clear hown hkp hx ho hxa hox hyx hmet ha0 hax hi hux hnm hwj hstep hsl hgw hgl hslw hcell hbl hc hcj hy hcut hob hsub hsub2
        go_upto_region 18 with fail
        refine wp_region_adds0 25 (fun i=>([[],[],[],[1,2],[3],[],[5],[6],[4,7],[],[],[],[],[],[],[13,14],[15],[],[17],[18],[16,19],[12,20],[21],[9,10,11,22],[0,8]]:List (List Nat)).getD i []) (EL [Ent.val (.slice (some ⟨gw0,0,none⟩) n cw),Ent.val (.slice (some ⟨bb,oo,none⟩) K.length ck),Ent.val (.int .i64 (j:Int)),Ent.val (.pointer (some ⟨bb,oo+j,none⟩)),Ent.val (.int .i64 a),Ent.val (.pointer (some ⟨q3,0,none⟩)),Ent.val (.pointer (some ⟨q3,0,none⟩)),Ent.val (.int .i64 m.old.base),Ent.val (.int .i64 (i:Int)),Ent.val (.agg #[.int .i64 m.old.base,.int .i64 m.old.limit,.slice A1 m.old.ws.length u1,.int .i64 m.yng.base,.int .i64 m.yng.limit,.slice A2 m.yng.ws.length u2]),Ent.val (.slice Al p.1.length cl),Ent.val (.slice At p.1.length ct),Ent.val (.slice (some ⟨gw0,0,none⟩) n cw),Ent.val (.slice (some ⟨bb,oo,none⟩) K.length ck),Ent.val (.int .i64 (j:Int)),Ent.val (.pointer (some ⟨bb,oo+j,none⟩)),Ent.val (.int .i64 a),Ent.val (.pointer (some ⟨q3,0,none⟩)),Ent.val (.pointer (some ⟨q3,0,none⟩)),Ent.val (.int .i64 m.old.base),Ent.val (.int .i64 (i:Int)),Ent.val (.pointer (some ⟨gw0,i,none⟩)),Ent.val (.int .u64 x),Ent.val (.int .u64 y),Ent.val (.pointer (some ⟨gw0,i,none⟩))]) (by kernel_rfl) (by kernel_rfl) (by kernel_rfl) (by kernel_rfl) (by rfl) ?_ ?_
        ·intro i hi o ho vs w9 hb1 hgr
         rcases (show i=0 ∨ i=1 ∨ i=2 ∨ i=3 ∨ i=4 ∨ i=5 ∨ i=6 ∨ i=7 ∨ i=8 ∨ i=9 ∨ i=10 ∨ i=11 ∨ i=12 ∨ i=13 ∨ i=14 ∨ i=15 ∨ i=16 ∨ i=17 ∨ i=18 ∨ i=19 ∨ i=20 ∨ i=21 ∨ i=22 ∨ i=23 ∨ i=24 by omega) with rfl | rfl | rfl | rfl | rfl | rfl | rfl | rfl | rfl | rfl | rfl | rfl | rfl | rfl | rfl | rfl | rfl | rfl | rfl | rfl | rfl | rfl | rfl | rfl | rfl <;> cases ho
         ·clear hgr
          change Made _ (Adds _ _ _) (Sem.run _ (execOp (Act.eval (frm _ _ _ [])) _) _)
          simp only[frm]
          go_simp
          exact adds_val rfl
         ·clear hgr
          change Made _ (Adds _ _ _) (Sem.run _ (execOp (Act.eval (frm _ _ _ [])) _) _)
          simp only[frm]
          go_simp
          exact adds_val rfl
         ·clear hgr
          change Made _ (Adds _ _ _) (Sem.run _ (execOp (Act.eval (frm _ _ _ [])) _) _)
          simp only[frm]
          go_simp
          exact adds_val rfl
         ·have h1:vs 1=_:=hgr 1 (by decide)
          have h2:vs 2=_:=hgr 2 (by decide)
          clear hgr
          change Made _ (Adds _ _ _) (Sem.run _ (execOp (Act.eval (Act.put (Act.put (frm _ _ _ []) (some 95) (vs 2)) (some 94) (vs 1))) _) _)
          simp only[frm,h1,h2]
          go_simp
          exact adds_val rfl
         ·have h3:vs 3=_:=hgr 3 (by decide)
          clear hgr
          change Made _ (Adds _ _ _) (Sem.run _ (execOp (Act.eval (Act.put (frm _ _ _ []) (some 96) (vs 3))) _) _)
          simp only[frm,h3]
          have e4:w9.cell? ⟨bb,oo+j,none⟩=some (.int .i64 a):=((bcell hb1).1 _ _ HE1.out.1).trans HE1.out.2
          go_simp
          exact adds_val rfl
         ·clear hgr
          change Made _ (Adds _ _ _) (Sem.run _ (execOp (Act.eval (frm _ _ _ [])) _) _)
          simp only[frm]
          go_simp
          exact adds_val rfl
         ·have h5:vs 5=_:=hgr 5 (by decide)
          clear hgr
          change Made _ (Adds _ _ _) (Sem.run _ (execOp (Act.eval (Act.put (frm _ _ _ []) (some 98) (vs 5))) _) _)
          simp only[frm,h5]
          go_simp
          exact adds_val rfl
         ·have h6:vs 6=_:=hgr 6 (by decide)
          clear hgr
          change Made _ (Adds _ _ _) (Sem.run _ (execOp (Act.eval (Act.put (frm _ _ _ []) (some 99) (vs 6))) _) _)
          simp only[frm,h6]
          have hbk:=HX3.out.below hb1 HX3.out.lt
          have c0:w9.cell? ⟨q3,0,none⟩=some (.int .i64 m.old.base):=hbk.cell 0
          clear hbk
          go_simp
          exact adds_val rfl
         ·have h4:vs 4=_:=hgr 4 (by decide)
          have h7:vs 7=_:=hgr 7 (by decide)
          clear hgr
          change Made _ (Adds _ _ _) (Sem.run _ (execOp (Act.eval (Act.put (Act.put (frm _ _ _ []) (some 100) (vs 7)) (some 97) (vs 4))) _) _)
          simp only[frm,h4,h7]
          have hsub:=HSUB.out.1
          have hsub2:=HSUB.out.2
          go_simp
          exact adds_val rfl
         ·clear hgr
          change Made _ (Adds _ _ _) (Sem.run _ (execOp (Act.eval (frm _ _ _ [])) _) _)
          simp only[frm]
          have hbk:=HX3.out.below hb1 HX3.out.lt
          have c0:w9.cell? ⟨q3,0,none⟩=some (.int .i64 m.old.base):=hbk.cell 0
          have c1:w9.cell? ⟨q3,1,none⟩=some (.int .i64 m.old.limit):=hbk.cell 1
          have c2:w9.cell? ⟨q3,2,none⟩=some (.slice A1 m.old.ws.length u1):=hbk.cell 2
          have c3:w9.cell? ⟨q3,3,none⟩=some (.int .i64 m.yng.base):=hbk.cell 3
          have c4:w9.cell? ⟨q3,4,none⟩=some (.int .i64 m.yng.limit):=hbk.cell 4
          have c5:w9.cell? ⟨q3,5,none⟩=some (.slice A2 m.yng.ws.length u2):=hbk.cell 5
          clear hbk
          go_simp
          exact adds_val rfl
         ·clear hgr
          change Made _ (Adds _ _ _) (Sem.run _ (execOp (Act.eval (frm _ _ _ [])) _) _)
          simp only[frm]
          go_simp
          exact adds_val rfl
         ·clear hgr
          change Made _ (Adds _ _ _) (Sem.run _ (execOp (Act.eval (frm _ _ _ [])) _) _)
          simp only[frm]
          go_simp
          exact adds_val rfl
         ·clear hgr
          change Made _ (Adds _ _ _) (Sem.run _ (execOp (Act.eval (frm _ _ _ [])) _) _)
          simp only[frm]
          go_simp
          exact adds_val rfl
         ·clear hgr
          change Made _ (Adds _ _ _) (Sem.run _ (execOp (Act.eval (frm _ _ _ [])) _) _)
          simp only[frm]
          go_simp
          exact adds_val rfl
         ·clear hgr
          change Made _ (Adds _ _ _) (Sem.run _ (execOp (Act.eval (frm _ _ _ [])) _) _)
          simp only[frm]
          go_simp
          exact adds_val rfl
         ·have h13:vs 13=_:=hgr 13 (by decide)
          have h14:vs 14=_:=hgr 14 (by decide)
          clear hgr
          change Made _ (Adds _ _ _) (Sem.run _ (execOp (Act.eval (Act.put (Act.put (frm _ _ _ []) (some 107) (vs 14)) (some 106) (vs 13))) _) _)
          simp only[frm,h13,h14]
          go_simp
          exact adds_val rfl
         ·have h15:vs 15=_:=hgr 15 (by decide)
          clear hgr
          change Made _ (Adds _ _ _) (Sem.run _ (execOp (Act.eval (Act.put (frm _ _ _ []) (some 108) (vs 15))) _) _)
          simp only[frm,h15]
          have e4:w9.cell? ⟨bb,oo+j,none⟩=some (.int .i64 a):=((bcell hb1).1 _ _ HE1.out.1).trans HE1.out.2
          go_simp
          exact adds_val rfl
         ·clear hgr
          change Made _ (Adds _ _ _) (Sem.run _ (execOp (Act.eval (frm _ _ _ [])) _) _)
          simp only[frm]
          go_simp
          exact adds_val rfl
         ·have h17:vs 17=_:=hgr 17 (by decide)
          clear hgr
          change Made _ (Adds _ _ _) (Sem.run _ (execOp (Act.eval (Act.put (frm _ _ _ []) (some 110) (vs 17))) _) _)
          simp only[frm,h17]
          go_simp
          exact adds_val rfl
         ·have h18:vs 18=_:=hgr 18 (by decide)
          clear hgr
          change Made _ (Adds _ _ _) (Sem.run _ (execOp (Act.eval (Act.put (frm _ _ _ []) (some 111) (vs 18))) _) _)
          simp only[frm,h18]
          have hbk:=HX3.out.below hb1 HX3.out.lt
          have c0:w9.cell? ⟨q3,0,none⟩=some (.int .i64 m.old.base):=hbk.cell 0
          clear hbk
          go_simp
          exact adds_val rfl
         ·have h16:vs 16=_:=hgr 16 (by decide)
          have h19:vs 19=_:=hgr 19 (by decide)
          clear hgr
          change Made _ (Adds _ _ _) (Sem.run _ (execOp (Act.eval (Act.put (Act.put (frm _ _ _ []) (some 112) (vs 19)) (some 109) (vs 16))) _) _)
          simp only[frm,h16,h19]
          have hsub:=HSUB.out.1
          have hsub2:=HSUB.out.2
          go_simp
          exact adds_val rfl
         ·have h12:vs 12=_:=hgr 12 (by decide)
          have h20:vs 20=_:=hgr 20 (by decide)
          clear hgr
          change Made _ (Adds _ _ _) (Sem.run _ (execOp (Act.eval (Act.put (Act.put (frm _ _ _ []) (some 113) (vs 20)) (some 105) (vs 12))) _) _)
          simp only[frm,h12,h20]
          go_simp
          exact adds_val rfl
         ·have h21:vs 21=_:=hgr 21 (by decide)
          clear hgr
          change Made _ (Adds _ _ _) (Sem.run _ (execOp (Act.eval (Act.put (frm _ _ _ []) (some 114) (vs 21))) _) _)
          simp only[frm,h21]
          have e5:w9.cell? ⟨gw0,i,none⟩=some (.int .u64 x):=((bcell hb1).1 _ _ HC1.out.1).trans HC1.out.2
          go_simp
          exact adds_val rfl
         ·have h9:vs 9=_:=hgr 9 (by decide)
          have h10:vs 10=_:=hgr 10 (by decide)
          have h11:vs 11=_:=hgr 11 (by decide)
          have h22:vs 22=_:=hgr 22 (by decide)
          clear hgr
          change Made _ (Adds _ _ _) (Sem.run _ (execOp (Act.eval (Act.put (Act.put (Act.put (Act.put (frm _ _ _ []) (some 115) (vs 22)) (some 104) (vs 11)) (some 103) (vs 10)) (some 102) (vs 9))) _) _)
          simp only[frm,h9,h10,h11,h22]
          have cM:=HCM.out _ hb1
          go_simp
          exact adds_below cM
         ·have h0:vs 0=_:=hgr 0 (by decide)
          have h8:vs 8=_:=hgr 8 (by decide)
          clear hgr
          change Made _ (Adds _ _ _) (Sem.run _ (execOp (Act.eval (Act.put (Act.put (frm _ _ _ []) (some 101) (vs 8)) (some 93) (vs 0))) _) _)
          simp only[frm,h0,h8]
          go_simp
          exact adds_val rfl
        intro vs w9 hb1 hall hap
        have h23:vs 23=_:=(hall 23 (by omega)).1
        have h24:vs 24=_:=(hall 24 (by omega)).1
        clear hall hap
        change wpList _ _ _ [_] (Act.put (Act.put (Act.put (Act.put (Act.put (Act.put (Act.put (Act.put (Act.put (Act.put (Act.put (Act.put (Act.put (Act.put (Act.put (Act.put (Act.put (Act.put (Act.put (Act.put (Act.put (Act.put (Act.put (Act.put (Act.put (frm _ _ _ []) (some 117) (vs 24)) (some 116) (vs 23)) (some 115) (vs 22)) (some 114) (vs 21)) (some 113) (vs 20)) (some 112) (vs 19)) (some 111) (vs 18)) (some 110) (vs 17)) (some 109) (vs 16)) (some 108) (vs 15)) (some 107) (vs 14)) (some 106) (vs 13)) (some 105) (vs 12)) (some 104) (vs 11)) (some 103) (vs 10)) (some 102) (vs 9)) (some 101) (vs 8)) (some 100) (vs 7)) (some 99) (vs 6)) (some 98) (vs 5)) (some 97) (vs 4)) (some 96) (vs 3)) (some 95) (vs 2)) (some 94) (vs 1)) (some 93) (vs 0)) _
        simp only[frm,h23,h24]
        have hb9:=hb1
        have HO9:=lh (own_local HOJ.out fun q hq=>hb9.block q (HOJ.out.lt q hq).2)
        have HK9:=lh (HKP.out.trans (Kp.of_below (S:=fun k=>(Value.slice (some ⟨gw0,0,none⟩) n cw).ownBlock=some k) hb9) fun _ _ e=>e)
        have e5:w9.cell? ⟨gw0,i,none⟩=some (.int .u64 x):=((bcell hb9).1 _ _ HC1.out.1).trans HC1.out.2
        have f5:w9.frozen? ⟨gw0,i,none⟩=false:=by
         obtain⟨_,⟨h2,_⟩ | ⟨g',cap',cur,hv,_,h4,_⟩⟩:=HO9.out
         ·cases h2
         ·cases hv
          exact(show Bk w9 gw0 _ cur from h4).free i
        clear hb1 hb9 h23 h24
        go_wp2_with fail
        go_roundw
        case rel =>
         refine⟨j+1,by go_num,by omega,?_,HK9.out.trans (Kp.setCell (S:=fun k=>(Value.slice (some ⟨gw0,0,none⟩) n cw).ownBlock=some k) _ ⟨gw0,i,none⟩ _ rfl) fun _ _ e=>e⟩
         have:=ownSetAt HO9.out hil (.int .u64 y)
         rw[Nat.zero_add] at this
         rw[HST.out,show wds ((m.upd p.1 (m.plc T p.1) (K.take j) m.old.ws).set i y)=(wds (m.upd p.1 (m.plc T p.1) (K.take j) m.old.ws)).set i (.int .u64 y) by simp[wds,List.map_set]]
         exact this
        case measure=>simp[intOf];omega
       ·have hjK:K.length=j:=by omega
        subst hjK
        rw[List.take_of_length_le (Nat.le_refl _)] at HOJ
        obtain⟨x2,hx2⟩:∃ x2,x2=wr:=⟨_,rfl⟩
        subst hx2
        have HBX2:=lh (hkp.toBelow HBX6.out HBX6.out.size (fun k e=>(HOW.out k e).1))
        obtain⟨U,hU⟩:∃ U,U=m.upd p.1 (m.plc T p.1) K m.old.ws:=⟨_,rfl⟩
        rw[← hU] at HOJ
        have HU:=lh hU
        have hUl:U.length=n:=by rw[hU,m.upd_len,HNW.out.1]
        obtain⟨W,hW⟩:∃ W:Nat→List Int,W=fun j=>U++(p.1.take j).flatMap (m.cpy p.1 (m.plc T p.1)):=⟨_,rfl⟩
        have HW:Hid (W=fun j=>U++(p.1.take j).flatMap (m.cpy p.1 (m.plc T p.1))):=lh hW
        have HWL:Hid (∀ j,(W j).length≤16777216):=lh (fun j=>by
         have h1:=m.flat_len (f:=m.cpy p.1 (m.plc T p.1)) (l:=p.1.take j) fun b hb=>m.cpy_len _ _ b
         have h2:m.need (p.1.take j)≤m.need p.1:=by
          have h3:=m.need_app (p.1.take j) (p.1.drop j)
          rw[List.take_append_drop] at h3
          have:=m.need_nn (p.1.drop j)
          omega
         have h3:=HF.out
         have h4:=HT.out
         have h5:=HNW.out.1
         rw[hW]
         show(U++_).length≤_
         rw[List.length_append]
         omega)
        have hW0:W 0=U:=by rw[hW];show U++_=U;simp
        have HO7:Hid (x2.ownsRow x1.heap.size 54 1 (.slice Aw n cw) (W 0).length (wds (W 0))):=lh (by rw[hW0,hUl];exact HOJ.out)
        clear hown hkp hlt hj hU hUl hW hW0 HOJ HKP HQ6 HBW6 HL6 HTS6 HO6 HK6 HSK HAK HOW HBX6
        have hpl5:=HP.out.2.2
        go_wp2_with fail
        go_loopw [18,21] (fun v ix wr=>∃ j:Nat,ix=.int .i64 (j:Int)∧j≤p.1.length∧wr.ownsRow x1.heap.size 54 1 v (W j).length (wds (W j))∧Below x1.heap.size x1 wr) (fun _ ix _=>p.1.length - (intOf ix).toNat)
        case atStart=>exact⟨0,rfl,Nat.zero_le _,HO7.out,HBX2.out⟩
        case round =>
         clear HO7 HBX2
         obtain⟨j,rfl,hj,hown,hb⟩:=hrel
         have HOJ:=lh hown
         have HBJ:=lh hb
         have HQJ:=lh (HQX.out.below hb rfl)
         have HBW:=lh (HBX.out.trans (hb.mono HBX.out.size))
         obtain⟨Av,cv,rfl,hcv⟩:=own_shape hown
         by_cases hlt:j < p.1.length
         ·have hx:p.1[j]?=some p.1[j]:=List.getElem?_eq_getElem hlt
          have h0:=(HP.out.2.1.ok _ (List.mem_of_getElem? hx)).1
          have hwb:=wH_bound (m.hdr p.1[j]).2
          have hsl:=slotN_le (Mm.hdr_valid h0)
          have hs0:0≤slotN (m.hdr p.1[j]).2:=by
           have:=vH_bound (Mm.hdr_valid h0)
           unfold slotN
           split
           ·omega
           ·split <;> omega
          have hrg:=hdr_rg HOK.out h0
          have cH:=fun(w':World) (hb':Below wr.heap.size wr w')=>RHeader_yes (H.out.below (HBW.out.trans (hb'.mono HBW.out.size))) p.1[j] h0
          unfold rmV at cH
          have hWs:W (j+1)=W j++m.cpy p.1 (m.plc T p.1) p.1[j]:=by
           rw[HW.out]
           show U++(p.1.take (j+1)).flatMap _=(U++(p.1.take j).flatMap _)++_
           rw[List.take_add_one,hx,Option.toList_some,List.flatMap_append,List.flatMap_cons,List.flatMap_nil,List.append_nil,List.append_assoc]
          obtain⟨bb,oo,hA,hbl,hc⟩:=HLX.out.2.2.resolve_left (by omega)
          have hcj:x1.cell? ⟨bb,oo+j,none⟩=some (.int .i64 p.1[j]):=hc j _ (ints_get hx)
          have HE0:=lh (And.intro hbl hcj)
          have HE1:Hid (bb < wr.heap.size∧wr.cell? ⟨bb,oo+j,none⟩=some (.int .i64 p.1[j])):=lh ⟨Nat.lt_of_lt_of_le hbl hb.size,((bcell hb).1 _ _ hbl).trans hcj⟩
          have hcl2:=HLX.out.1
          have HAA:=lh hA
          have hjc:j < cl:=by omega
          have hcg:∀ q:Nat,(q:Int) < wH (m.hdr p.1[j]).2→(m.cpy p.1 (m.plc T p.1) p.1[j])[q]?=some (if 2≤q∧(q:Int) < 2+slotN (m.hdr p.1[j]).2 then m.mvd p.1 (m.plc T p.1) ((m.at_ (p.1[j]+(q:Int))).getD 0) else (m.at_ (p.1[j]+(q:Int))).getD 0):=fun q hq=>m.cpy_get _ _ _ hq
          have hca:∀ q:Nat,(q:Int) < wH (m.hdr p.1[j]).2→∃ x,m.at_ (p.1[j]+(q:Int))=some x∧U64 x:=fun q hq=>by
           have hh:=(HOK.out.has_near h0 (j:=(q:Int)) (by omega) hq).1
           obtain⟨_,_,_,x,_,hx2⟩:=Spc.at_some hh
           exact⟨x,hx2,HOK.out.at_u hx2⟩
          have hcl:(m.cpy p.1 (m.plc T p.1) p.1[j]).length=(wH (m.hdr p.1[j]).2).toNat:=m.cpy_len _ _ _
          generalize p.1[j]=a at *
          obtain⟨CP,hCP⟩:∃ CP,CP=m.cpy p.1 (m.plc T p.1) a:=⟨_,rfl⟩
          rw[← hCP] at hWs hcl
          simp only[← hCP] at hcg
          obtain⟨⟨er,hk,hc_,hf⟩,hhd⟩:∃ q:Int × Hdr,q=m.hdr a:=⟨_,rfl⟩
          rw[← hhd] at h0 hwb hsl hcl hs0
          simp only[← hhd] at cH hcg hca
          dsimp only at h0 hwb hsl hcl hs0
          obtain⟨wh,hwh⟩:∃ wh,wh=wH ⟨hk,hc_,hf⟩:=⟨_,rfl⟩
          obtain⟨sn,hsn⟩:∃ sn,sn=slotN ⟨hk,hc_,hf⟩:=⟨_,rfl⟩
          have cW:=fun w=>RWords_of ⟨hk,hc_,hf⟩ w
          have cS:=fun w=>RSlots_any ⟨hk,hc_,hf⟩ w
          simp only[← hwh] at cW
          simp only[← hsn] at cS
          rw[← hwh,← hsn] at hsl
          rw[← hsn] at hs0
          have HS0:=lh hs0
          rw[← hwh] at hwb hcl
          simp only[← hwh,← hsn] at hcg
          simp only[← hwh] at hca
          obtain⟨Wh,hWh⟩:∃ Wh:Nat,(Wh:Int)=wh:=⟨wh.toNat,by omega⟩
          have HWS:=lh hWs
          have HCG:=lh hcg
          have HCA:=lh hca
          have HRG:=lh (And.intro hrg (And.intro hwb (And.intro hWh (And.intro hcl hsl))))
          have HCW:=lh cW
          have HCS:=lh cS
          have HCH:=lh cH
          have HXJ:=lh HQJ.out.h3
          subst hA
          clear cH hb hx h0 hbl hc hcj hhd hwh hsn hwb hsl hs0 hrg hcg hca hcl hWs hWh cW cS hown hCP
          go_upto_region 22 with fail
          refine wp_region_addsF0 10 (fun i=>([[],[],[],[1,2],[3],[0,4],[5],[6],[6],[]]:List (List Nat)).getD i []) [8] (EL [Ent.val (.agg #[.int .i64 m.old.base,.int .i64 m.old.limit,.slice A1 m.old.ws.length u1,.int .i64 m.yng.base,.int .i64 m.yng.limit,.slice A2 m.yng.ws.length u2]),Ent.val (.slice (some ⟨bb,oo,none⟩) p.1.length cl),Ent.val (.int .i64 (j:Int)),Ent.val (.pointer (some ⟨bb,oo+j,none⟩)),Ent.val (.int .i64 a),Ent.val (.tuple #[.agg #[.int .i64 hk,.int .i64 hc_,.int .i64 hf],.int .i64 0]),Ent.val (.tuple #[.agg #[.int .i64 hk,.int .i64 hc_,.int .i64 hf],.int .i64 0]),Ent.val (.agg #[.int .i64 hk,.int .i64 hc_,.int .i64 hf]),Ent.val (.int .i64 0),Ent.blk 58 #[.int .i64 0,.int .i64 0,.int .i64 0]]) (by kernel_rfl) (by kernel_rfl) (by kernel_rfl) (by kernel_rfl) (by kernel_rfl) (by rfl) ?_ ?_
          ·intro i hi o ho vs w5 hb1 hgr
           rcases (show i=0 ∨ i=1 ∨ i=2 ∨ i=3 ∨ i=4 ∨ i=5 ∨ i=6 ∨ i=7 ∨ i=8 ∨ i=9 by omega) with rfl | rfl | rfl | rfl | rfl | rfl | rfl | rfl | rfl | rfl <;> cases ho
           ·clear hgr
            change Made _ (Adds _ _ _) (Sem.run _ (execOp (Act.eval (frm _ _ _ [])) _) _)
            simp only[frm]
            have hbk:=HXJ.out.below hb1 HXJ.out.lt
            have c0:w5.cell? ⟨q3,0,none⟩=some (.int .i64 m.old.base):=hbk.cell 0
            have c1:w5.cell? ⟨q3,1,none⟩=some (.int .i64 m.old.limit):=hbk.cell 1
            have c2:w5.cell? ⟨q3,2,none⟩=some (.slice A1 m.old.ws.length u1):=hbk.cell 2
            have c3:w5.cell? ⟨q3,3,none⟩=some (.int .i64 m.yng.base):=hbk.cell 3
            have c4:w5.cell? ⟨q3,4,none⟩=some (.int .i64 m.yng.limit):=hbk.cell 4
            have c5:w5.cell? ⟨q3,5,none⟩=some (.slice A2 m.yng.ws.length u2):=hbk.cell 5
            clear hbk
            go_simp
            exact adds_val rfl
           ·clear hgr
            change Made _ (Adds _ _ _) (Sem.run _ (execOp (Act.eval (frm _ _ _ [])) _) _)
            simp only[frm]
            go_simp
            exact adds_val rfl
           ·clear hgr
            change Made _ (Adds _ _ _) (Sem.run _ (execOp (Act.eval (frm _ _ _ [])) _) _)
            simp only[frm]
            go_simp
            exact adds_val rfl
           ·have h1:vs 1=_:=hgr 1 (by decide)
            have h2:vs 2=_:=hgr 2 (by decide)
            clear hgr
            change Made _ (Adds _ _ _) (Sem.run _ (execOp (Act.eval (Act.put (Act.put (frm _ _ _ []) (some 127) (vs 2)) (some 126) (vs 1))) _) _)
            simp only[frm,h1,h2]
            go_simp
            exact adds_val rfl
           ·have h3:vs 3=_:=hgr 3 (by decide)
            clear hgr
            change Made _ (Adds _ _ _) (Sem.run _ (execOp (Act.eval (Act.put (frm _ _ _ []) (some 128) (vs 3))) _) _)
            simp only[frm,h3]
            have e4:w5.cell? ⟨bb,oo+j,none⟩=some (.int .i64 a):=((bcell hb1).1 _ _ HE1.out.1).trans HE1.out.2
            go_simp
            exact adds_val rfl
           ·have h0:vs 0=_:=hgr 0 (by decide)
            have h4:vs 4=_:=hgr 4 (by decide)
            clear hgr
            change Made _ (Adds _ _ _) (Sem.run _ (execOp (Act.eval (Act.put (Act.put (frm _ _ _ []) (some 129) (vs 4)) (some 125) (vs 0))) _) _)
            simp only[frm,h0,h4]
            have cM:=HCH.out _ hb1
            go_simp
            exact adds_below cM
           ·have h5:vs 5=_:=hgr 5 (by decide)
            clear hgr
            change Made _ (Adds _ _ _) (Sem.run _ (execOp (Act.eval (Act.put (frm _ _ _ []) (some 130) (vs 5))) _) _)
            simp only[frm,h5]
            go_simp
            exact adds_val rfl
           ·have h6:vs 6=_:=hgr 6 (by decide)
            clear hgr
            change Made _ (Adds _ _ _) (Sem.run _ (execOp (Act.eval (Act.put (frm _ _ _ []) (some 124) (vs 6))) _) _)
            simp only[frm,h6]
            go_simp
            exact adds_val rfl
           ·have h6:vs 6=_:=hgr 6 (by decide)
            clear hgr
            change Made _ (Adds _ _ _) (Sem.run _ (execOp (Act.eval (Act.put (frm _ _ _ []) (some 124) (vs 6))) _) _)
            simp only[frm,h6]
            go_simp
            exact adds_val rfl
           ·clear hgr
            change Made _ (Adds _ _ _) (Sem.run _ (execOp (Act.eval (frm _ _ _ [])) _) _)
            simp only[frm]
            go_simp
            exact adds_blk
          intro vs w5 hb1 hall hap
          obtain⟨⟨g9,h9,k9⟩,q9⟩:=hall 9 (by omega)
          have r9:wr.heap.size≤g9∧g9 < w5.heap.size:=q9 g9 (by rw[h9];rfl)
          clear q9
          have h7:vs 7=_:=(hall 7 (by omega)).1
          have h8:vs 8=_:=(hall 8 (by omega)).1
          clear hall hap
          change wpList _ _ _ [_,_] (Act.put (Act.put (Act.put (Act.put (Act.put (Act.put (Act.put (Act.put (Act.put (Act.put (frm _ _ _ []) (some 22) (vs 9)) (some 132) (vs 8)) (some 131) (vs 7)) (some 124) (vs 6)) (some 130) (vs 5)) (some 129) (vs 4)) (some 128) (vs 3)) (some 127) (vs 2)) (some 126) (vs 1)) (some 125) (vs 0)) _
          simp only[frm,h7,h8,h9]
          have HB9:=lh hb1
          have HK9:=lh k9
          have hr10:=r9
          have d0:w5.cell? ⟨g9,0,none⟩=some (.int .i64 0):=k9.cell 0
          have d1:w5.cell? ⟨g9,1,none⟩=some (.int .i64 0):=k9.cell 1
          have d2:w5.cell? ⟨g9,2,none⟩=some (.int .i64 0):=k9.cell 2
          have f0:=k9.free 0
          have f1:=k9.free 1
          have f2:=k9.free 2
          clear hb1 k9 r9 h7 h8 h9
          go_wp2_with fail
          have hbz:Below wr.heap.size wr (((w5.setCell ⟨g9,0,none⟩ (.int .i64 hk)).setCell ⟨g9,1,none⟩ (.int .i64 hc_)).setCell ⟨g9,2,none⟩ (.int .i64 hf)):=below_set3 HB9.out (by omega) _ _ _
          have HBZ:=lh hbz
          have HKZ:=lh (HK9.out.set3 (.int .i64 hk) (.int .i64 hc_) (.int .i64 hf))
          have HGZ:Hid (wr.heap.size≤g9):=lh hr10.1
          clear hbz HB9 HK9 hr10 d0 d1 d2 f0 f1 f2
          obtain⟨gh,hgh⟩:∃ gh,gh=g9:=⟨_,rfl⟩
          generalize ((w5.setCell ⟨g9,0,none⟩ (.int .i64 hk)).setCell ⟨g9,1,none⟩ (.int .i64 hc_)).setCell ⟨g9,2,none⟩ (.int .i64 hf)=w6 at *
          rw[← hgh] at HKZ HGZ ⊢
          clear hgh
          try rw[onlyN_normal]
          have HO6:=lh (own_local HOJ.out fun q hq=>HBZ.out.block q (HOJ.out.lt q hq).2)
          have HBJ6:=lh (HBJ.out.trans (HBZ.out.mono HBJ.out.size))
          have HKH:Hid (Bk w6 gh 58 #[.int .i64 hk,.int .i64 hc_,.int .i64 hf]):=lh HKZ.out
          have HX1:Hid (x1.heap.size≤gh):=lh (Nat.le_trans HBJ.out.size HGZ.out)
          clear HOJ HBJ HQJ HBW HXJ HCH HE1 HKZ HGZ HBZ
          go_wp2_with fail
          go_loopw [18,24] (fun v ix wr=>∃ q:Nat,ix=.int .i64 (q:Int)∧q≤Wh∧wr.ownsRow x1.heap.size 54 1 v ((W j).length+q) (wds (W j++CP.take q))∧Bk wr gh 58 #[.int .i64 hk,.int .i64 hc_,.int .i64 hf]∧Below x1.heap.size x1 wr) (fun _ ix _=>Wh - (intOf ix).toNat)
          case atStart=>exact⟨0,rfl,Nat.zero_le _,by rw[List.take_zero,List.append_nil];exact HO6.out,HKH.out,HBJ6.out⟩
          case round =>
           clear HO6 HKH HBJ6
           obtain⟨q,rfl,hq,hown,hkh,hb⟩:=hrel
           have HOQ:=lh hown
           have HKQ:=lh hkh
           have HBQ:=lh hb
           obtain⟨Aq,cq,rfl,hcq⟩:=own_shape hown
           have a0:wr.cell? ⟨gh,0,none⟩=some (.int .i64 hk):=hkh.cell 0
           have a1:wr.cell? ⟨gh,1,none⟩=some (.int .i64 hc_):=hkh.cell 1
           have a2:wr.cell? ⟨gh,2,none⟩=some (.int .i64 hf):=hkh.cell 2
           have cW:=HCW.out
           clear hown hkh hb
           go_wp2_with fail
           refine(cW _).mono ?_
           rintro e x3 ⟨rfl,hb3⟩
           have HOX:=lh (own_local HOQ.out fun q hq=>hb3.block q (HOQ.out.lt q hq).2)
           have HKX:=lh (HKQ.out.below hb3 HKQ.out.lt)
           have HBX3:=lh (HBQ.out.trans (hb3.mono HBQ.out.size))
           clear cW a0 a1 a2 hb3 HOQ HKQ HBQ
           by_cases hqlt:q < Wh
           ·have hqw:(q:Int) < wh:=by have:=HRG.out.2.2.1;omega
            have dlt:decide ((q:Int) < wh)=true:=decide_eq_true hqw
            obtain⟨x,hxa,hux⟩:=HCA.out q hqw
            have hcq2:=HCG.out q hqw
            rw[hxa,Option.getD_some] at hcq2
            have HBWX:=lh (HBX.out.trans (HBX3.out.mono HBX.out.size))
            have cL:=fun(w':World) (hb':Below x3.heap.size x3 w')=>RLoad_any (H.out.below (HBWX.out.trans (hb'.mono HBWX.out.size))) (a+(q:Int))
            rw[hxa] at cL
            unfold rmV atV at cL
            dsimp only at cL
            have HCL:=lh cL
            have HQX3:=lh ((HQX.out.below HBX3.out rfl).h3)
            have HE3:Hid (bb < x3.heap.size∧x3.cell? ⟨bb,oo+j,none⟩=some (.int .i64 a)):=lh ⟨Nat.lt_of_lt_of_le HE0.out.1 HBX3.out.size,((bcell HBX3.out).1 _ _ HE0.out.1).trans HE0.out.2⟩
            have hwll:=HWL.out j
            have hq32:q≤32:=by have:=HRG.out.2.1.2;have:=HRG.out.2.2.1;omega
            have hwq:wrap64 (a+(q:Int))=a+(q:Int):=by have:=HRG.out.1;unfold wrap64;omega
            have hwq2:IntKind.i64.wrap (a+(q:Int))=a+(q:Int):=IntWalk.i64_in _ (by have:=HRG.out.1;omega)
            have HWQ:=lh (And.intro hwq hwq2)
            have HCQ:=lh hcq2
            have HUX:=lh hux
            clear cL hxa hux hcq2 hwq hwq2
            go_upto_region 26 with fail
            clear dlt
            refine wp_region_all 13 (fun i=>([[],[],[],[1,2],[3],[],[4,5],[0,6],[7],[8],[8],[9],[10]]:List (List Nat)).getD i []) (EL [Ent.val (.agg #[.int .i64 m.old.base,.int .i64 m.old.limit,.slice A1 m.old.ws.length u1,.int .i64 m.yng.base,.int .i64 m.yng.limit,.slice A2 m.yng.ws.length u2]),Ent.val (.slice (some ⟨bb,oo,none⟩) p.1.length cl),Ent.val (.int .i64 (j:Int)),Ent.val (.pointer (some ⟨bb,oo+j,none⟩)),Ent.val (.int .i64 a),Ent.val (.int .i64 (q:Int)),Ent.val (.int .i64 (a+(q:Int))),Ent.val (.tuple #[.int .u64 x,.int .i64 0]),Ent.val (.tuple #[.int .u64 x,.int .i64 0]),Ent.val (.int .u64 x),Ent.val (.int .i64 0),Ent.val (.int .u64 x),Ent.val (.int .i64 0)]) rfl (by kernel_rfl) (by rfl) (by kernel_rfl) (by kernel_rfl) (by rfl) ?_ ?_
            ·intro i hi o ho vs w9 hb1 hgr
             rcases (show i=0 ∨ i=1 ∨ i=2 ∨ i=3 ∨ i=4 ∨ i=5 ∨ i=6 ∨ i=7 ∨ i=8 ∨ i=9 ∨ i=10 ∨ i=11 ∨ i=12 by omega) with rfl | rfl | rfl | rfl | rfl | rfl | rfl | rfl | rfl | rfl | rfl | rfl | rfl <;> cases ho
             ·clear hgr
              change Made _ (Adds _ _ _) (Sem.run _ (execOp (Act.eval (frm _ _ _ [])) _) _)
              simp only[frm]
              have hbk:=HQX3.out.below hb1 HQX3.out.lt
              have c0:w9.cell? ⟨q3,0,none⟩=some (.int .i64 m.old.base):=hbk.cell 0
              have c1:w9.cell? ⟨q3,1,none⟩=some (.int .i64 m.old.limit):=hbk.cell 1
              have c2:w9.cell? ⟨q3,2,none⟩=some (.slice A1 m.old.ws.length u1):=hbk.cell 2
              have c3:w9.cell? ⟨q3,3,none⟩=some (.int .i64 m.yng.base):=hbk.cell 3
              have c4:w9.cell? ⟨q3,4,none⟩=some (.int .i64 m.yng.limit):=hbk.cell 4
              have c5:w9.cell? ⟨q3,5,none⟩=some (.slice A2 m.yng.ws.length u2):=hbk.cell 5
              clear hbk
              go_simp
              exact adds_val rfl
             ·clear hgr
              change Made _ (Adds _ _ _) (Sem.run _ (execOp (Act.eval (frm _ _ _ [])) _) _)
              simp only[frm]
              go_simp
              exact adds_val rfl
             ·clear hgr
              change Made _ (Adds _ _ _) (Sem.run _ (execOp (Act.eval (frm _ _ _ [])) _) _)
              simp only[frm]
              go_simp
              exact adds_val rfl
             ·have h1:vs 1=_:=hgr 1 (by decide)
              have h2:vs 2=_:=hgr 2 (by decide)
              clear hgr
              change Made _ (Adds _ _ _) (Sem.run _ (execOp (Act.eval (Act.put (Act.put (frm _ _ _ []) (some 142) (vs 2)) (some 141) (vs 1))) _) _)
              simp only[frm,h1,h2]
              go_simp
              exact adds_val rfl
             ·have h3:vs 3=_:=hgr 3 (by decide)
              clear hgr
              change Made _ (Adds _ _ _) (Sem.run _ (execOp (Act.eval (Act.put (frm _ _ _ []) (some 143) (vs 3))) _) _)
              simp only[frm,h3]
              have e4:w9.cell? ⟨bb,oo+j,none⟩=some (.int .i64 a):=((bcell hb1).1 _ _ HE3.out.1).trans HE3.out.2
              go_simp
              exact adds_val rfl
             ·clear hgr
              change Made _ (Adds _ _ _) (Sem.run _ (execOp (Act.eval (frm _ _ _ [])) _) _)
              simp only[frm]
              go_simp
              exact adds_val rfl
             ·have h4:vs 4=_:=hgr 4 (by decide)
              have h5:vs 5=_:=hgr 5 (by decide)
              clear hgr
              change Made _ (Adds _ _ _) (Sem.run _ (execOp (Act.eval (Act.put (Act.put (frm _ _ _ []) (some 145) (vs 5)) (some 144) (vs 4))) _) _)
              simp only[frm,h4,h5]
              have hwq:=HWQ.out.1
              have hwq2:=HWQ.out.2
              go_simp
              exact adds_val rfl
             ·have h0:vs 0=_:=hgr 0 (by decide)
              have h6:vs 6=_:=hgr 6 (by decide)
              clear hgr
              change Made _ (Adds _ _ _) (Sem.run _ (execOp (Act.eval (Act.put (Act.put (frm _ _ _ []) (some 146) (vs 6)) (some 140) (vs 0))) _) _)
              simp only[frm,h0,h6]
              have cM:=HCL.out _ hb1
              go_simp
              exact adds_below cM
             ·have h7:vs 7=_:=hgr 7 (by decide)
              clear hgr
              change Made _ (Adds _ _ _) (Sem.run _ (execOp (Act.eval (Act.put (frm _ _ _ []) (some 147) (vs 7))) _) _)
              simp only[frm,h7]
              go_simp
              exact adds_val rfl
             ·have h8:vs 8=_:=hgr 8 (by decide)
              clear hgr
              change Made _ (Adds _ _ _) (Sem.run _ (execOp (Act.eval (Act.put (frm _ _ _ []) (some 139) (vs 8))) _) _)
              simp only[frm,h8]
              go_simp
              exact adds_val rfl
             ·have h8:vs 8=_:=hgr 8 (by decide)
              clear hgr
              change Made _ (Adds _ _ _) (Sem.run _ (execOp (Act.eval (Act.put (frm _ _ _ []) (some 139) (vs 8))) _) _)
              simp only[frm,h8]
              go_simp
              exact adds_val rfl
             ·have h9:vs 9=_:=hgr 9 (by decide)
              clear hgr
              change Made _ (Adds _ _ _) (Sem.run _ (execOp (Act.eval (Act.put (frm _ _ _ []) (some 148) (vs 9))) _) _)
              simp only[frm,h9]
              go_simp
              exact adds_val rfl
             ·have h10:vs 10=_:=hgr 10 (by decide)
              clear hgr
              change Made _ (Adds _ _ _) (Sem.run _ (execOp (Act.eval (Act.put (frm _ _ _ []) (some 149) (vs 10))) _) _)
              simp only[frm,h10]
              go_simp
              exact adds_val rfl
            intro vs w9 hb1 hall hap
            have h11:vs 11=_:=(hall 11 (by omega)).1
            have h12:vs 12=_:=(hall 12 (by omega)).1
            clear hall hap
            change wpList _ _ _ [] (Act.put (Act.put (Act.put (Act.put (Act.put (Act.put (Act.put (Act.put (Act.put (Act.put (Act.put (Act.put (Act.put (frm _ _ _ []) (some 26) (vs 12)) (some 25) (vs 11)) (some 149) (vs 10)) (some 148) (vs 9)) (some 139) (vs 8)) (some 147) (vs 7)) (some 146) (vs 6)) (some 145) (vs 5)) (some 144) (vs 4)) (some 143) (vs 3)) (some 142) (vs 2)) (some 141) (vs 1)) (some 140) (vs 0)) _
            simp only[frm,h11,h12]
            have HO9:=lh (own_local HOX.out fun q hq=>hb1.block q (HOX.out.lt q hq).2)
            have HK9:=lh (HKX.out.below hb1 HKX.out.lt)
            have HB9:=lh (HBX3.out.trans (hb1.mono HBX3.out.size))
            have HZ9:=HB9.out.size
            clear hb1 h11 h12 HOX HKX HBX3 HQX3 HE3 HCL HBWX
            go_simp
            change Exit.then _ _ _ _ _
            have a0:w9.cell? ⟨gh,0,none⟩=some (.int .i64 hk):=HK9.out.cell 0
            have a1:w9.cell? ⟨gh,1,none⟩=some (.int .i64 hc_):=HK9.out.cell 1
            have a2:w9.cell? ⟨gh,2,none⟩=some (.int .i64 hf):=HK9.out.cell 2
            have hcq2:=HCQ.out
            by_cases h2:2≤q
            ·have g1:decide (2≤(q:Int))=true:=decide_eq_true (by omega)
             have g1g:decide ((q:Int) ≥ 2)=true:=decide_eq_true (by omega)
             have g1n:decide (2≤q)=true:=decide_eq_true h2
             have cS:=HCS.out
             have hsn0:0≤sn:=HS0.out
             have hsn32:sn≤30:=by have:=HRG.out.2.1.2;have:=HRG.out.2.2.2.2;omega
             by_cases hsl:(q:Int) < 2+sn
             ·rw[if_pos ⟨h2,hsl⟩] at hcq2
              obtain⟨y,hy⟩:∃ y,y=m.mvd p.1 (m.plc T p.1) x:=⟨_,rfl⟩
              rw[← hy] at hcq2
              have HTK:Hid (wds (W j++CP.take (q+1))=wds (W j++CP.take q)++[.int .u64 y]):=lh (by rw[List.take_add_one,hcq2];simp[wds])
              have g2:decide ((q:Int) < 2+sn)=true:=decide_eq_true hsl
              have hws:IntKind.i64.wrap (2+sn)=2+sn:=IntWalk.i64_in _ (by omega)
              have HYY:=lh hy
              clear hcq2 hy h2 hsl
              go_wp2_with fail
              refine(cS _).mono ?_
              rintro e w10 ⟨rfl,hb10⟩
              have HO10:=lh (own_local HO9.out fun q hq=>hb10.block q (HO9.out.lt q hq).2)
              have HK10:=lh (HK9.out.below hb10 HK9.out.lt)
              have HB10:=lh (HB9.out.trans (hb10.mono HB9.out.size))
              have HBW10:=lh (HBX.out.trans (HB10.out.mono HBX.out.size))
              have cM:=Rmoved_any (H.out.below HBW10.out) HOK.out (IS.below ⟨HLX.out.2,HLX.out.1⟩ HB10.out) (HTX.out.below HB10.out) (m.plc_len _ _) (by have:=HP.out.2.2;omega) HUX.out
              rw[← HYY.out] at cM
              simp only[m.plc_len] at cM
              unfold rmC at cM
              have hq10:=HQX.out.below HB10.out rfl
              have d0:w10.cell? ⟨q3,0,none⟩=some (.int .i64 m.old.base):=hq10.h3.cell 0
              have d1:w10.cell? ⟨q3,1,none⟩=some (.int .i64 m.old.limit):=hq10.h3.cell 1
              have d2:w10.cell? ⟨q3,2,none⟩=some (.slice A1 m.old.ws.length u1):=hq10.h3.cell 2
              have d3:w10.cell? ⟨q3,3,none⟩=some (.int .i64 m.yng.base):=hq10.h3.cell 3
              have d4:w10.cell? ⟨q3,4,none⟩=some (.int .i64 m.yng.limit):=hq10.h3.cell 4
              have d5:w10.cell? ⟨q3,5,none⟩=some (.slice A2 m.yng.ws.length u2):=hq10.h3.cell 5
              clear cS hb10 a0 a1 a2 HO9 HK9 HB9 HBW10 hq10
              go_wp2_with fail
              refine cM.mono ?_
              rintro e w11 ⟨rfl,hb11⟩
              have HO11:=lh (own_local HO10.out fun q hq=>hb11.block q (HO10.out.lt q hq).2)
              have HK11:=lh (HK10.out.below hb11 HK10.out.lt)
              have HB11:=lh (HB10.out.trans (hb11.mono HB10.out.size))
              have hsz11:=HB11.out.size
              clear cM hb11 d0 d1 d2 d3 d4 d5 HO10 HK10 HB10 g1 g1g g1n g2 hws
              go_wp2_with (at_builtin;refine wpList_append_own_at _ rfl (.tmp 164) (.tmp 166) 31 rfl x1.heap.size 54 i0 (.int .u64 0) 1 8 Tryz.underlying31 HI.out.1 HI.out.2.1 HI.out.2.2.1 HI.out.2.2.2 rfl (by decide) _ ((W j).length+q) _ rfl (HO11.out.alloc _) ⟨w11.heap.size,0,none⟩ 1 1 [.int .u64 y] rfl rfl (cell_one_new _ _ _) (by simp[Value.oneCell']) (by unfold maxLen;omega) (by omega) (by simp;omega) ?_;intro v17 w17 hown17 hg17 _ hloc17;have HOWN17:=lh hown17;have HG17:=lh hg17;clear hown17 hg17 hloc17)
              go_roundw
              case rel =>
               refine⟨q+1,by go_num,by omega,?_,?_,?_⟩
               ·rw[HTK.out,show(W j).length+(q+1)=(W j).length+q+1 by omega]
                exact HOWN17.out
               ·exact(HK11.out.alloc _).grown HG17.out (fun e=>ownRow_bk HO11.out HK11.out (by decide) e.symm)
               ·exact(HB11.out.alloc (by omega) _).grown HG17.out (by simp;omega) (fun k hk=>(HO11.out.lt k hk).1)
              case measure=>simp[intOf];omega
             ·rw[if_neg (by omega)] at hcq2
              have HTK:Hid (wds (W j++CP.take (q+1))=wds (W j++CP.take q)++[.int .u64 x]):=lh (by rw[List.take_add_one,hcq2];simp[wds])
              have g2:decide ((q:Int) < 2+sn)=false:=decide_eq_false hsl
              have hws:IntKind.i64.wrap (2+sn)=2+sn:=IntWalk.i64_in _ (by omega)
              clear hcq2 h2 hsl
              go_wp2_with fail
              refine(cS _).mono ?_
              rintro e w10 ⟨rfl,hb10⟩
              have HO10:=lh (own_local HO9.out fun q hq=>hb10.block q (HO9.out.lt q hq).2)
              have HK10:=lh (HK9.out.below hb10 HK9.out.lt)
              have HB10:=lh (HB9.out.trans (hb10.mono HB9.out.size))
              have hsz10:=HB10.out.size
              clear cS hb10 a0 a1 a2 HO9 HK9 HB9
              go_wp2_with (at_builtin;refine wpList_append_own_at _ rfl (.tmp 164) (.tmp 166) 31 rfl x1.heap.size 54 i0 (.int .u64 0) 1 8 Tryz.underlying31 HI.out.1 HI.out.2.1 HI.out.2.2.1 HI.out.2.2.2 rfl (by decide) _ ((W j).length+q) _ rfl (HO10.out.alloc _) ⟨w10.heap.size,0,none⟩ 1 1 [.int .u64 x] rfl rfl (cell_one_new _ _ _) (by simp[Value.oneCell']) (by unfold maxLen;omega) (by omega) (by simp;omega) ?_;intro v17 w17 hown17 hg17 _ hloc17;have HOWN17:=lh hown17;have HG17:=lh hg17;clear hown17 hg17 hloc17)
              go_roundw
              case rel =>
               refine⟨q+1,by go_num,by omega,?_,?_,?_⟩
               ·rw[HTK.out,show(W j).length+(q+1)=(W j).length+q+1 by omega]
                exact HOWN17.out
               ·exact(HK10.out.alloc _).grown HG17.out (fun e=>ownRow_bk HO10.out HK10.out (by decide) e.symm)
               ·exact(HB10.out.alloc (by omega) _).grown HG17.out (by simp;omega) (fun k hk=>(HO10.out.lt k hk).1)
              case measure=>simp[intOf];omega
            ·rw[if_neg (by omega)] at hcq2
             have HTK:Hid (wds (W j++CP.take (q+1))=wds (W j++CP.take q)++[.int .u64 x]):=lh (by rw[List.take_add_one,hcq2];simp[wds])
             have g1:decide (2≤(q:Int))=false:=decide_eq_false (by omega)
             have g1g:decide ((q:Int) ≥ 2)=false:=decide_eq_false (by omega)
             have g1n:decide (2≤q)=false:=decide_eq_false h2
             clear hcq2 h2 a0 a1 a2
             go_wp2_with (at_builtin;refine wpList_append_own_at _ rfl (.tmp 164) (.tmp 166) 31 rfl x1.heap.size 54 i0 (.int .u64 0) 1 8 Tryz.underlying31 HI.out.1 HI.out.2.1 HI.out.2.2.1 HI.out.2.2.2 rfl (by decide) _ ((W j).length+q) _ rfl (HO9.out.alloc _) ⟨w9.heap.size,0,none⟩ 1 1 [.int .u64 x] rfl rfl (cell_one_new _ _ _) (by simp[Value.oneCell']) (by unfold maxLen;omega) (by omega) (by simp;omega) ?_;intro v17 w17 hown17 hg17 _ hloc17;have HOWN17:=lh hown17;have HG17:=lh hg17;clear hown17 hg17 hloc17)
             go_roundw
             case rel =>
              refine⟨q+1,by go_num,by omega,?_,?_,?_⟩
              ·rw[HTK.out,show(W j).length+(q+1)=(W j).length+q+1 by omega]
               exact HOWN17.out
              ·exact(HK9.out.alloc _).grown HG17.out (fun e=>ownRow_bk HO9.out HK9.out (by decide) e.symm)
              ·exact(HB9.out.alloc (by omega) _).grown HG17.out (by simp;omega) (fun k hk=>(HO9.out.lt k hk).1)
             case measure=>simp[intOf];omega
           ·have hqW:Wh=q:=by omega
            subst hqW
            have dge:decide (((Wh:Nat):Int) < wh)=false:=decide_eq_false (by have:=HRG.out.2.2.1;omega)
            have HOE:Hid (x3.ownsRow x1.heap.size 54 1 (.slice Aq ((W j).length+Wh) cq) (W (j+1)).length (wds (W (j+1)))):=lh (by
             have h1:=HOX.out
             have h2:=HRG.out.2.2.1
             have h3:=HRG.out.2.2.2.1
             rw[List.take_of_length_le (by omega)] at h1
             rw[HWS.out,List.length_append,show CP.length=Wh by omega]
             exact h1)
            clear HOX HKX hq
            go_wp2_with fail
            go_roundw
            case rel=>exact⟨j+1,by go_num,by omega,HOE.out,HBX3.out⟩
            case measure=>simp[intOf];omega
         ·have hjL:p.1.length=j:=by omega
          subst hjL
          obtain⟨x5,hx5⟩:∃ x5,x5=wr:=⟨_,rfl⟩
          subst hx5
          obtain⟨V,hV⟩:∃ V,V=W p.1.length:=⟨_,rfl⟩
          rw[← hV] at HOJ
          have HV:Hid (V=W p.1.length∧V.length≤16777216):=lh ⟨hV,by rw[hV];exact HWL.out _⟩
          have hVl:(W p.1.length).length=V.length:=by rw[hV]
          rw[hVl]
          have HO5:=HOJ
          have HQ5:=HQJ
          have HB5:=HBJ
          have HBW5:=HBW
          clear hown hb hlt hj hV hVl HOJ HQJ HBJ HBW hcv
          go_wp2_with fail
          go_loopw [27,28] (fun v ix wr=>∃ j:Nat,ix=.int .i64 (j:Int)∧j≤roots.length∧wr.ownsRow x5.heap.size 54 1 v j (wds ((roots.take j).map (m.mvd p.1 (m.plc T p.1))))∧Below x5.heap.size x5 wr) (fun _ ix _=>roots.length - (intOf ix).toNat)
          case atStart =>
           refine⟨0,rfl,Nat.zero_le _,?_,(Below.refl _ _).alloc (Nat.le_refl _) _⟩
           exact ownEmpty 1 (Bk.new _ _ _) (Nat.le_refl _)
          case round =>
           obtain⟨j,rfl,hj,hown,hb⟩:=hrel
           have HOJ:=lh hown
           have HBJ:=lh hb
           have HQJ:=lh (HQ5.out.below hb rfl)
           have HBW:=lh (HBW5.out.trans (hb.mono HBW5.out.size))
           obtain⟨Ao,co,rfl,hco⟩:=own_shape hown
           by_cases hlt:j < roots.length
           ·have hx:roots[j]?=some roots[j]:=List.getElem?_eq_getElem hlt
            have hux:=HRT.out.2.2.1 _ (List.mem_of_getElem? hx)
            have htk:(roots.take (j+1)).map (m.mvd p.1 (m.plc T p.1))=(roots.take j).map (m.mvd p.1 (m.plc T p.1))++[m.mvd p.1 (m.plc T p.1) roots[j]]:=by
             rw[List.take_add_one,hx,Option.toList_some,List.map_append,List.map_cons,List.map_nil]
            obtain⟨bb,oo,hA,hbl,hc⟩:=(HRT.out.1.below HBW.out).2.resolve_left (by omega)
            have hcj:wr.cell? ⟨bb,oo+j,none⟩=some (.int .u64 roots[j]):=hc j _ (wds_get hx)
            have HE1:=lh (And.intro hbl hcj)
            have hcr:=HRT.out.2.1
            have hjc:j < cr:=by omega
            have hrl5:=HRT.out.2.2.2.2
            generalize roots[j]=x at *
            obtain⟨y,hy⟩:∃ y,y=m.mvd p.1 (m.plc T p.1) x:=⟨_,rfl⟩
            rw[← hy] at htk
            have HTK:Hid (wds ((roots.take (j+1)).map (m.mvd p.1 (m.plc T p.1)))=wds ((roots.take j).map (m.mvd p.1 (m.plc T p.1)))++wds [y]):=lh (by rw[htk];simp[wds])
            have HX3:=lh HQJ.out.h3
            have HCM:Hid (∀ w',Below wr.heap.size wr w'→Calls Tryz.prog 76 #[.agg #[.int .i64 m.old.base,.int .i64 m.old.limit,.slice A1 m.old.ws.length u1,.int .i64 m.yng.base,.int .i64 m.yng.limit,.slice A2 m.yng.ws.length u2],.slice Al p.1.length cl,.slice At p.1.length ct,.int .u64 x] w' fun e w''=>e=.returned (.int .u64 y)∧Below w'.heap.size w' w''):=lh (fun w' hb'=>by
             have hb1:=HB5.out.trans ((HBJ.out.trans (hb'.mono HBJ.out.size)).mono HB5.out.size)
             have cM:=Rmoved_any (H.out.below (HBW.out.trans (hb'.mono HBW.out.size))) HOK.out (IS.below ⟨HLX.out.2,HLX.out.1⟩ hb1) (HTX.out.below hb1) (m.plc_len _ _) (by have:=HP.out.2.2;omega) hux
             rw[← hy] at cM
             simp only[m.plc_len] at cM
             exact cM)
            have hAr:=hA
            subst hA
            clear hown hb hx hux htk hbl hc hcj hy
            go_upto_region 34 with fail
            refine wp_region_first 10 (fun i=>([[],[],[],[],[],[],[4,5],[6],[1,2,3,7],[8]]:List (List Nat)).getD i []) (EL [Ent.val (.slice Ao j co),Ent.val (.agg #[.int .i64 m.old.base,.int .i64 m.old.limit,.slice A1 m.old.ws.length u1,.int .i64 m.yng.base,.int .i64 m.yng.limit,.slice A2 m.yng.ws.length u2]),Ent.val (.slice Al p.1.length cl),Ent.val (.slice At p.1.length ct),Ent.val (.slice (some ⟨bb,oo,none⟩) roots.length cr),Ent.val (.int .i64 (j:Int)),Ent.val (.pointer (some ⟨bb,oo+j,none⟩)),Ent.val (.int .u64 x),Ent.val (.int .u64 y),Ent.of (WsT wr.heap.size [y]) WsT.bl]) rfl (by kernel_rfl) (by kernel_rfl) (by kernel_rfl) (by rfl) ?_ ?_
            ·intro i hi o ho vs w9 hb1 hgr
             rcases (show i=0 ∨ i=1 ∨ i=2 ∨ i=3 ∨ i=4 ∨ i=5 ∨ i=6 ∨ i=7 ∨ i=8 ∨ i=9 by omega) with rfl | rfl | rfl | rfl | rfl | rfl | rfl | rfl | rfl | rfl <;> cases ho
             ·clear hgr
              change Made _ (Adds _ _ _) (Sem.run _ (execOp (Act.eval (frm _ _ _ [])) _) _)
              simp only[frm]
              go_simp
              exact adds_val rfl
             ·clear hgr
              change Made _ (Adds _ _ _) (Sem.run _ (execOp (Act.eval (frm _ _ _ [])) _) _)
              simp only[frm]
              have hbk:=HX3.out.below hb1 HX3.out.lt
              have c0:w9.cell? ⟨q3,0,none⟩=some (.int .i64 m.old.base):=hbk.cell 0
              have c1:w9.cell? ⟨q3,1,none⟩=some (.int .i64 m.old.limit):=hbk.cell 1
              have c2:w9.cell? ⟨q3,2,none⟩=some (.slice A1 m.old.ws.length u1):=hbk.cell 2
              have c3:w9.cell? ⟨q3,3,none⟩=some (.int .i64 m.yng.base):=hbk.cell 3
              have c4:w9.cell? ⟨q3,4,none⟩=some (.int .i64 m.yng.limit):=hbk.cell 4
              have c5:w9.cell? ⟨q3,5,none⟩=some (.slice A2 m.yng.ws.length u2):=hbk.cell 5
              clear hbk
              go_simp
              exact adds_val rfl
             ·clear hgr
              change Made _ (Adds _ _ _) (Sem.run _ (execOp (Act.eval (frm _ _ _ [])) _) _)
              simp only[frm]
              go_simp
              exact adds_val rfl
             ·clear hgr
              change Made _ (Adds _ _ _) (Sem.run _ (execOp (Act.eval (frm _ _ _ [])) _) _)
              simp only[frm]
              go_simp
              exact adds_val rfl
             ·clear hgr
              change Made _ (Adds _ _ _) (Sem.run _ (execOp (Act.eval (frm _ _ _ [])) _) _)
              simp only[frm]
              go_simp
              exact adds_val rfl
             ·clear hgr
              change Made _ (Adds _ _ _) (Sem.run _ (execOp (Act.eval (frm _ _ _ [])) _) _)
              simp only[frm]
              go_simp
              exact adds_val rfl
             ·have h4:vs 4=_:=hgr 4 (by decide)
              have h5:vs 5=_:=hgr 5 (by decide)
              clear hgr
              change Made _ (Adds _ _ _) (Sem.run _ (execOp (Act.eval (Act.put (Act.put (frm _ _ _ []) (some 180) (vs 5)) (some 179) (vs 4))) _) _)
              simp only[frm,h4,h5]
              go_simp
              exact adds_val rfl
             ·have h6:vs 6=_:=hgr 6 (by decide)
              clear hgr
              change Made _ (Adds _ _ _) (Sem.run _ (execOp (Act.eval (Act.put (frm _ _ _ []) (some 181) (vs 6))) _) _)
              simp only[frm,h6]
              have e4:w9.cell? ⟨bb,oo+j,none⟩=some (.int .u64 x):=((bcell hb1).1 _ _ HE1.out.1).trans HE1.out.2
              go_simp
              exact adds_val rfl
             ·have h1:vs 1=_:=hgr 1 (by decide)
              have h2:vs 2=_:=hgr 2 (by decide)
              have h3:vs 3=_:=hgr 3 (by decide)
              have h7:vs 7=_:=hgr 7 (by decide)
              clear hgr
              change Made _ (Adds _ _ _) (Sem.run _ (execOp (Act.eval (Act.put (Act.put (Act.put (Act.put (frm _ _ _ []) (some 182) (vs 7)) (some 178) (vs 3)) (some 177) (vs 2)) (some 176) (vs 1))) _) _)
              simp only[frm,h1,h2,h3,h7]
              have cM:=HCM.out _ hb1
              go_simp
              exact adds_below cM
             ·have h8:vs 8=_:=hgr 8 (by decide)
              clear hgr
              change Made _ (Adds _ _ _) (Sem.run _ (execOp (Act.eval (Act.put (frm _ _ _ []) (some 183) (vs 8))) _) _)
              simp only[frm,h8]
              go_simp
              exact adds_newR (T:=WsT wr.heap.size [y]) (hT:=WsT.bl) ⟨_,_,rfl,Sl.new _ 54 [.int .u64 y],Nat.le_refl _,fun b o e=>by cases e;exact⟨hb1.size,by simp⟩⟩ ((Below.refl _ _).alloc (Nat.le_refl _) _)
            intro vs w9 hb1 hall hap
            have h0:vs 0=_:=(hall 0 (by omega)).1
            have h1:vs 1=_:=(hall 1 (by omega)).1
            have h2:vs 2=_:=(hall 2 (by omega)).1
            have h3:vs 3=_:=(hall 3 (by omega)).1
            have h4:vs 4=_:=(hall 4 (by omega)).1
            have h5:vs 5=_:=(hall 5 (by omega)).1
            have h6:vs 6=_:=(hall 6 (by omega)).1
            have h7:vs 7=_:=(hall 7 (by omega)).1
            have h8:vs 8=_:=(hall 8 (by omega)).1
            obtain⟨A9,c9,h9,hsr,hcc9,hgr9⟩:=(hall 9 (by omega)).1
            clear hall hap
            change wpList _ _ _ [_] (Act.put (Act.put (Act.put (Act.put (Act.put (Act.put (Act.put (Act.put (Act.put (Act.put (frm _ _ _ []) (some 184) (vs 9)) (some 183) (vs 8)) (some 182) (vs 7)) (some 181) (vs 6)) (some 180) (vs 5)) (some 179) (vs 4)) (some 178) (vs 3)) (some 177) (vs 2)) (some 176) (vs 1)) (some 175) (vs 0)) _
            simp only[frm,h0,h1,h2,h3,h4,h5,h6,h7,h8,h9]
            have HO9:=lh (own_local HOJ.out fun q hq=>hb1.block q (HOJ.out.lt q hq).2)
            have HB9:=lh (HBJ.out.trans (hb1.mono HBJ.out.size))
            have HS9:=lh hsr
            have hsz9:=HB9.out.size
            have hcr9:1≤c9:=hcc9
            clear hb1 hsr hcc9 hgr9 HOJ HBJ HQJ HBW HX3 HCM HE1
            have hml:j+1≤maxLen:=by unfold maxLen;omega
            simp only[Act.put,List.setIfInBounds_toArray,List.set_cons_succ,List.set_cons_zero]
            at_builtin
            refine wpList_app rfl (.tmp 175) (.tmp 184) 31 rfl Tryz.underlying31 HI.out.1 HI.out.2.1 HI.out.2.2.1 HI.out.2.2.2 rfl (by decide) (v:=.slice Ao j co) (n:=j) rfl HO9.out (A:=A9) (m:=1) (c:=c9) (news:=wds [y]) rfl HS9.out (wds_one _) hml (by omega) (by omega) ?_
            intro v17 w17 hown17 hg17 hloc17
            have HOWN17:=lh hown17
            have HG17:=lh hg17
            clear hown17 hg17 hloc17 hml
            show normalTo _ _ _ _ _
            simp only[normalTo]
            refine phase2_one rfl rfl rfl (by kernel_rfl) (by go_simp;rfl) ?_
            have HOZ:=HOWN17
            have HBZ:=lh (HB9.out.grown HG17.out (by omega) (fun k hk=>(HO9.out.lt k hk).1))
            go_simp
            try change Exit.then _ _ _ _ _
            go_wp2_with fail
            go_roundw
            case rel=>exact⟨j+1,by go_num,by omega,by rw[HTK.out];exact HOZ.out,HBZ.out⟩
            case measure=>simp[intOf];omega
           ·have hjR:roots.length=j:=by omega
            subst hjR
            rw[List.take_of_length_le (Nat.le_refl _)] at HOJ
            obtain⟨x6,hx6⟩:∃ x6,x6=wr:=⟨_,rfl⟩
            subst hx6
            have HO6:=lh (own_local HO5.out fun q hq=>hb.block q (HO5.out.lt q hq).2)
            have hq:=HQJ.out
            have e2:x6.cell? ⟨q3,2,none⟩=some (.slice A1 m.old.ws.length u1):=hq.h3.cell 2
            have e5:x6.cell? ⟨q3,5,none⟩=some (.slice A2 m.yng.ws.length u2):=hq.h3.cell 5
            have ef2:x6.frozen? ⟨q3,2,none⟩=false:=hq.h3.free 2
            have ef5:x6.frozen? ⟨q3,5,none⟩=false:=hq.h3.free 5
            clear hown hlt hj hq
            go_upto_region 37 with fail
            clear e2 e5 ef2 ef5
            have hz3:Bk ((x6.setCell ⟨q3,2,none⟩ (.slice Av V.length cv)).setCell ⟨q3,5,none⟩ (.slice none 0 0)) q3 35 #[.int .i64 m.old.base,.int .i64 m.old.limit,.slice Av V.length cv,.int .i64 m.yng.base,.int .i64 m.yng.limit,.slice none 0 0]:=(HQJ.out.h3.set 2 (.slice Av V.length cv)).set 5 (.slice none 0 0)
            have hz6:Bk ((x6.setCell ⟨q3,2,none⟩ (.slice Av V.length cv)).setCell ⟨q3,5,none⟩ (.slice none 0 0)) q6 35 #[.int .i64 0,.int .i64 0,.slice none 0 0,.int .i64 0,.int .i64 0,.slice none 0 0]:=(HQJ.out.h6.far (Ne.symm HN.out.2.2.2.2.2.1) _).far (Ne.symm HN.out.2.2.2.2.2.1) _
            have hz7:Bk ((x6.setCell ⟨q3,2,none⟩ (.slice Av V.length cv)).setCell ⟨q3,5,none⟩ (.slice none 0 0)) q7 37 #[.slice none 0 0]:=(HQJ.out.h7.far (Ne.symm HN.out.2.2.2.2.2.2.1) _).far (Ne.symm HN.out.2.2.2.2.2.2.1) _
            have hzk:Kp (fun k=>k=q3 ∨ k=q6 ∨ k=q7) x6 ((x6.setCell ⟨q3,2,none⟩ (.slice Av V.length cv)).setCell ⟨q3,5,none⟩ (.slice none 0 0)):=(Kp.setCell (S:=fun k=>k=q3 ∨ k=q6 ∨ k=q7) _ ⟨q3,2,none⟩ _ (.inl rfl)).trans (Kp.setCell (S:=fun k=>k=q3 ∨ k=q6 ∨ k=q7) _ ⟨q3,5,none⟩ _ (.inl rfl)) fun _ _ e=>e
            have HYA:=lh hz3
            have HYB:=lh hz6
            have HYC:=lh hz7
            have HYK:=lh hzk
            clear hz3 hz6 hz7 hzk
            generalize (x6.setCell ⟨q3,2,none⟩ (.slice Av V.length cv)).setCell ⟨q3,5,none⟩ (.slice none 0 0)=x7 at *
            have d0:x7.cell? ⟨q3,0,none⟩=some (.int .i64 m.old.base):=HYA.out.cell 0
            have d1:x7.cell? ⟨q3,1,none⟩=some (.int .i64 m.old.limit):=HYA.out.cell 1
            have d2:x7.cell? ⟨q3,2,none⟩=some (.slice Av V.length cv):=HYA.out.cell 2
            have d3:x7.cell? ⟨q3,3,none⟩=some (.int .i64 m.yng.base):=HYA.out.cell 3
            have d4:x7.cell? ⟨q3,4,none⟩=some (.int .i64 m.yng.limit):=HYA.out.cell 4
            have d5:x7.cell? ⟨q3,5,none⟩=some (.slice none 0 0):=HYA.out.cell 5
            have e0:x7.cell? ⟨q6,0,none⟩=some (.int .i64 0):=HYB.out.cell 0
            have e1:x7.cell? ⟨q6,1,none⟩=some (.int .i64 0):=HYB.out.cell 1
            have e2:x7.cell? ⟨q6,2,none⟩=some (.slice none 0 0):=HYB.out.cell 2
            have e3:x7.cell? ⟨q6,3,none⟩=some (.int .i64 0):=HYB.out.cell 3
            have e4:x7.cell? ⟨q6,4,none⟩=some (.int .i64 0):=HYB.out.cell 4
            have e5:x7.cell? ⟨q6,5,none⟩=some (.slice none 0 0):=HYB.out.cell 5
            have ef0:x7.frozen? ⟨q6,0,none⟩=false:=HYB.out.free 0
            have ef1:x7.frozen? ⟨q6,1,none⟩=false:=HYB.out.free 1
            have ef2:x7.frozen? ⟨q6,2,none⟩=false:=HYB.out.free 2
            have ef3:x7.frozen? ⟨q6,3,none⟩=false:=HYB.out.free 3
            have ef4:x7.frozen? ⟨q6,4,none⟩=false:=HYB.out.free 4
            have ef5:x7.frozen? ⟨q6,5,none⟩=false:=HYB.out.free 5
            have g0:x7.cell? ⟨q7,0,none⟩=some (.slice none 0 0):=HYC.out.cell 0
            have gf0:x7.frozen? ⟨q7,0,none⟩=false:=HYC.out.free 0
            have n1:q6≠q7:=HN.out.2.2.2.2.1
            have n2:q7≠q6:=Ne.symm n1
            have n3:q3≠q6:=HN.out.2.2.2.2.2.1
            have n4:q3≠q7:=HN.out.2.2.2.2.2.2.1
            have hzp:Bk (((((((x7.setCell ⟨q6,0,none⟩ (.int .i64 m.old.base)).setCell ⟨q6,1,none⟩ (.int .i64 m.old.limit)).setCell ⟨q6,2,none⟩ (.slice Av V.length cv)).setCell ⟨q6,3,none⟩ (.int .i64 m.yng.base)).setCell ⟨q6,4,none⟩ (.int .i64 m.yng.limit)).setCell ⟨q6,5,none⟩ (.slice none 0 0)).setCell ⟨q7,0,none⟩ (.slice none 0 0)) q6 35 #[.int .i64 m.old.base,.int .i64 m.old.limit,.slice Av V.length cv,.int .i64 m.yng.base,.int .i64 m.yng.limit,.slice none 0 0]:=st7n_p (q:=q7) (.int .i64 m.old.base) (.int .i64 m.old.limit) (.slice Av V.length cv) (.int .i64 m.yng.base) (.int .i64 m.yng.limit) (.slice none 0 0) (.slice none 0 0) HYB.out n1
            have hzq:Bk (((((((x7.setCell ⟨q6,0,none⟩ (.int .i64 m.old.base)).setCell ⟨q6,1,none⟩ (.int .i64 m.old.limit)).setCell ⟨q6,2,none⟩ (.slice Av V.length cv)).setCell ⟨q6,3,none⟩ (.int .i64 m.yng.base)).setCell ⟨q6,4,none⟩ (.int .i64 m.yng.limit)).setCell ⟨q6,5,none⟩ (.slice none 0 0)).setCell ⟨q7,0,none⟩ (.slice none 0 0)) q7 37 #[.slice none 0 0]:=st7n_q (p:=q6) (.int .i64 m.old.base) (.int .i64 m.old.limit) (.slice Av V.length cv) (.int .i64 m.yng.base) (.int .i64 m.yng.limit) (.slice none 0 0) (.slice none 0 0) HYC.out n2
            have hzk:Kp (fun k=>k=q3 ∨ k=q6 ∨ k=q7) x7 (((((((x7.setCell ⟨q6,0,none⟩ (.int .i64 m.old.base)).setCell ⟨q6,1,none⟩ (.int .i64 m.old.limit)).setCell ⟨q6,2,none⟩ (.slice Av V.length cv)).setCell ⟨q6,3,none⟩ (.int .i64 m.yng.base)).setCell ⟨q6,4,none⟩ (.int .i64 m.yng.limit)).setCell ⟨q6,5,none⟩ (.slice none 0 0)).setCell ⟨q7,0,none⟩ (.slice none 0 0)):=st7_kp3 (.int .i64 m.old.base) (.int .i64 m.old.limit) (.slice Av V.length cv) (.int .i64 m.yng.base) (.int .i64 m.yng.limit) (.slice none 0 0) (.slice none 0 0)
            have HZP:=lh hzp
            have HZQ:=lh hzq
            have HZR:=lh hzk
            clear hzp hzq hzk
            go_wp2_with fail
            generalize (((((((x7.setCell ⟨q6,0,none⟩ (.int .i64 m.old.base)).setCell ⟨q6,1,none⟩ (.int .i64 m.old.limit)).setCell ⟨q6,2,none⟩ (.slice Av V.length cv)).setCell ⟨q6,3,none⟩ (.int .i64 m.yng.base)).setCell ⟨q6,4,none⟩ (.int .i64 m.yng.limit)).setCell ⟨q6,5,none⟩ (.slice none 0 0)).setCell ⟨q7,0,none⟩ (.slice none 0 0))=x8 at *
            clear d0 e0 ef0 d1 e1 ef1 d2 e2 ef2 d3 e3 ef3 d4 e4 ef4 d5 e5 ef5 g0 gf0 n1 n2 n3 n4
            have e0:x8.cell? ⟨q6,0,none⟩=some (.int .i64 m.old.base):=HZP.out.cell 0
            have e1:x8.cell? ⟨q6,1,none⟩=some (.int .i64 m.old.limit):=HZP.out.cell 1
            have e2:x8.cell? ⟨q6,2,none⟩=some (.slice Av V.length cv):=HZP.out.cell 2
            have e3:x8.cell? ⟨q6,3,none⟩=some (.int .i64 m.yng.base):=HZP.out.cell 3
            have e4:x8.cell? ⟨q6,4,none⟩=some (.int .i64 m.yng.limit):=HZP.out.cell 4
            have e5:x8.cell? ⟨q6,5,none⟩=some (.slice none 0 0):=HZP.out.cell 5
            have g0:x8.cell? ⟨q7,0,none⟩=some (.slice none 0 0):=HZQ.out.cell 0
            have hCe:C=⟨0,⟨{ m.old with ws:=V },{ m.yng with ws:=[] }⟩,[],roots.map (m.mvd p.1 (m.plc T p.1)),(p.1.length:Int)⟩:=by
             have h1:=collect_okR m m.yng.chk cs roots (by rw[← HP.out.1];exact HP2.out) HCK.out (by rw[← HP.out.1];have:=HF.out;omega)
             rw[HC.out,h1,← HP.out.1,← HKE.out.1,← HT.out.1,HV.out.1,HW.out]
             show _=Col.mk 0 ⟨{ m.old with ws:=U++(p.1.take p.1.length).flatMap (m.cpy p.1 (m.plc T p.1)) },_⟩ _ _ _
             rw[List.take_length,HU.out]
            have hVu:∀ x∈V,U64 x:=by
             rw[HV.out.1,HW.out]
             intro x hx
             rcases List.mem_append.1 hx with hx | hx
             ·rw[HU.out] at hx
              exact(UpdI.upd HOK.out (ts:=m.plc T p.1) _ rfl HCR.out).1.u x hx
             ·obtain⟨a,_,ha⟩:=List.mem_flatMap.1 hx
              exact Mm.cpy_u HOK.out _ _ a x ha
            have hVl:m.old.base+(V.length:Int)≤m.old.limit:=by
             have h1:=m.flat_len (f:=m.cpy p.1 (m.plc T p.1)) (l:=p.1.take p.1.length) fun b hb=>m.cpy_len _ _ b
             have h2:=HF.out
             have h3:V.length=U.length+((p.1.take p.1.length).flatMap (m.cpy p.1 (m.plc T p.1))).length:=by
              rw[HV.out.1,HW.out]
              exact List.length_append
             have h4:U.length=m.old.ws.length:=by rw[HU.out,m.upd_len]
             rw[List.take_length] at h1 h3
             have h5:=m.need_nn p.1
             unfold Spc.top at h2
             omega
            have hkz:=HYK.out.trans HZR.out fun _ _ e=>e
            have hqlt:∀ k,(k=q3 ∨ k=q6 ∨ k=q7)→w.heap.size≤k∧k < x1.heap.size:=fun k e=>by
             rcases e with rfl | rfl | rfl
             ·exact⟨HN.out.1,HQX.out.h3.lt⟩
             ·exact⟨HN.out.2.2.1,HQX.out.h6.lt⟩
             ·exact⟨HN.out.2.2.2.1,HQX.out.h7.lt⟩
            have HOW8:=own_kp HO6.out hkz fun q hq e=>by
             have h1:=(HO6.out.lt q hq).1
             have h2:=(hqlt q e).2
             omega
            have hx15:x1.heap.size≤x5.heap.size:=HB5.out.size
            have HOO8:=own_kp HOJ.out hkz fun q hq e=>by
             have h1:=(HOJ.out.lt q hq).1
             have h2:=(hqlt q e).2
             omega
            have hbf:Below w.heap.size w x8:=hkz.toBelow HBW.out HBW.out.size fun k e=>(hqlt k e).1
            have hw15:w.heap.size≤x5.heap.size:=HBW5.out.size
            have hcv8:V.length≤cv:=by
             obtain⟨A',c',e',h'⟩:=own_shape HOW8
             cases e'
             exact h'
            refine bodyPost_ret (v:=.tuple #[.agg #[.int .i64 m.old.base,.int .i64 m.old.limit,.slice Av V.length cv,.int .i64 m.yng.base,.int .i64 m.yng.limit,.slice none 0 0],.agg #[.slice none 0 0],.slice Ao roots.length co,.int .i64 (p.1.length:Int),.int .i64 0]) (by simp[results,Tryz.results31,go_sem,e0,e1,e2,e3,e4,e5,g0]) rfl ?_
            rw[hCe]
            refine⟨Av,cv,none,0,none,0,.slice Ao roots.length co,rfl,⟨⟨own_sl HOW8,hcv8,hVu,H.out.o.b0,hVl,H.out.o.l0,fun b o e=>(HOW8.lt b (by rw[e];rfl)).2⟩,⟨⟨rfl,.inl rfl⟩,Nat.le_refl _,fun x hx=>(by cases hx),H.out.y.b0,by have h1:=H.out.y.lim;have h2:=H.out.y.b0;show m.yng.base+((([]:List Int).length:Nat):Int)≤m.yng.limit;simp;omega,H.out.y.l0,fun b o e=>(by cases e)⟩⟩,⟨⟨⟨rfl,.inl rfl⟩,Nat.le_refl _⟩,by decide,fun _=>⟨rfl,rfl⟩⟩,?_,hbf⟩
            show x8.ownsRow w.heap.size 54 1 (.slice Ao roots.length co) (roots.map (m.mvd p.1 (m.plc T p.1))).length (wds (roots.map (m.mvd p.1 (m.plc T p.1))))
            rw[List.length_map]
            exact own_base HOO8 hw15
end
end
end Go.Proofs.YtaijmgkjbbiboaaGreat
