/- Parts of the proof: NOpA. -/
import Derived.Test.YtaijmgkjbbiboaaGreatPcA
import Derived.Test.YtaijmgkjbbiboaaGreatPc14
import Derived.Test.YtaijmgkjbbiboaaGreatPc15
import Derived.Test.YtaijmgkjbbiboaaGreatPc16
import Derived.Test.YtaijmgkjbbiboaaGreatPc23
import Derived.Test.YtaijmgkjbbiboaaGreatPc4
set_option linter.unusedVariables false
set_option linter.unusedSimpArgs false
set_option linter.unusedSectionVars false
set_option maxRecDepth 100000
namespace Go.Proofs.YtaijmgkjbbiboaaGreat
section
open Go.RowKit Go.Sort
attribute [local go_sem] Oper.semAt_some onlyN_normal
structure OpS (w5 wr:World) (B1 g1 g2 gt bt n:Nat) (V1 V2:Value) (m:Mm) (cs:List Int):Prop where
 mr:MR wr B1 g1 g2 V1 V2 m
 cr:CR wr B1 gt bt n cs
 k:Kp (fun k=>B1≤k) w5 wr
section
variable {w5 wr w':World} {B1 g1 g2 gt bt n:Nat} {V1 V2:Value} {m:Mm} {cs:List Int}
theorem OpS.below (h:OpS w5 wr B1 g1 g2 gt bt n V1 V2 m cs) (hb:Below wr.heap.size wr w'):OpS w5 w' B1 g1 g2 gt bt n V1 V2 m cs :=
 ⟨h.mr.below hb,h.cr.below hb,h.k.trans (Kp.of_below (S:=fun k=>B1≤k) hb) fun _ _ e=>e⟩
theorem OpS.kp {S:Nat→Prop} (h:OpS w5 wr B1 g1 g2 gt bt n V1 V2 m cs) (hk:Kp S wr w') (hs:∀ k,S k→k < B1∧B1≤wr.heap.size) (h5:Kp S w5 w5):MR w' B1 g1 g2 V1 V2 m∧CR w' B1 gt bt n cs :=
 ⟨⟨h.mr.o.kp hk (fun e=>by have:=(hs _ e).1;have:=h.mr.o.ge;omega) (fun k hk1 e=>by have:=(hs _ e).1;have:=(h.mr.o.own.lt k hk1).1;omega),h.mr.y.kp hk (fun e=>by have:=(hs _ e).1;have:=h.mr.y.ge;omega) (fun k hk1 e=>by have:=(hs _ e).1;have:=(h.mr.y.own.lt k hk1).1;omega),h.mr.ok,h.mr.gg,h.mr.vv⟩,
  h.cr.kp hk (fun e=>by have:=(hs _ e).1;have:=h.cr.ge;omega) (fun e=>by have:=(hs _ e).1;have:=h.cr.gm;omega)⟩
theorem CR.base10 {w:World} {B B' g b n:Nat} {cs:List Int} (h:CR w B g b n cs) (hB:B'≤B):CR w B' g b n cs:=⟨h.hd,h.mp,Nat.le_trans hB h.ge,Nat.le_trans hB h.gm⟩
theorem own_base {w:World} {B B' n z:Nat} {e:TypeId} {V:Value} {xs:List Value} (h:w.ownsRow B e z V n xs) (hB:B'≤B):w.ownsRow B' e z V n xs:=⟨h.1,h.2.imp id fun⟨g,cap,cur,h1,h2,h3⟩=>⟨g,cap,cur,h1,Nat.le_trans hB h2,h3⟩⟩
/-- an allocation -/
theorem OpS.alloc (h:OpS w5 wr B1 g1 g2 gt bt n V1 V2 m cs) (hB:B1≤wr.heap.size) (y:Bool) (hd:Hdr) (i:Id):Calls Tryz.prog 44 #[.pointer (some ⟨if y=true then g2 else g1,0,none⟩),hd.val,i.val] wr fun e w'=>e=.returned (.tuple #[.int .i64 (m.alloc y hd i).2.2,.int .i64 (m.alloc y hd i).1])∧∃ V1' V2',OpS w5 w' B1 g1 g2 gt bt n V1' V2' (m.alloc y hd i).2.1 cs:=by
 have hok:=h.mr.ok.alloc y hd i
 have hgo:=h.mr.o.hd
 have hgy:=h.mr.y.hd
 cases y with
 | false =>
  have e:m.alloc false hd i=((m.old.alloc hd i).1,{ m with old:=(m.old.alloc hd i).2.1 },(m.old.alloc hd i).2.2):=by unfold Mm.alloc;rw[if_neg (by decide)]
  rw[e] at hok ⊢
  refine(SAlloc_any h.mr.o hB hd i).mono ?_
  rintro e' w' ⟨rfl,⟨V',hs,hv⟩,hk⟩
  refine⟨rfl,V',V2,⟨hs,h.mr.y.kp hk (fun e=>e.elim (fun e=>h.mr.gg e.symm) (h.mr.o.own_ne hgy (by decide))) (fun k hk1 e=>e.elim (fun e=>h.mr.y.own_ne hgo (by decide) (e ▸ hk1)) fun e=>h.mr.vv k e hk1),hok,h.mr.gg,fun k hk1 hk2=>(hv k hk1).elim (fun e=>h.mr.vv k e hk2) fun e=>by have:=(h.mr.y.own.lt k hk2).2;omega⟩,
   h.cr.kp hk (fun e=>e.elim (fun e=>Bk.neT h.cr.hd hgo (by decide) e) (h.mr.o.own_ne h.cr.hd (by decide))) (fun e=>e.elim (fun e=>h.cr.mp.neB hgo e.symm) (h.cr.mp.neO h.mr.o.own)),
   h.k.trans hk fun k _ e=>e.elim (fun e=>by rw[e];exact h.mr.o.ge) fun e=>(h.mr.o.own.lt k e).1⟩
 | true =>
  have e:m.alloc true hd i=((m.yng.alloc hd i).1,{ m with yng:=(m.yng.alloc hd i).2.1 },(m.yng.alloc hd i).2.2):=by unfold Mm.alloc;rw[if_pos rfl]
  rw[e] at hok ⊢
  refine(SAlloc_any h.mr.y hB hd i).mono ?_
  rintro e' w' ⟨rfl,⟨V',hs,hv⟩,hk⟩
  refine⟨rfl,V1,V',⟨h.mr.o.kp hk (fun e=>e.elim (fun e=>h.mr.gg e) (h.mr.y.own_ne hgo (by decide))) (fun k hk1 e=>e.elim (fun e=>h.mr.o.own_ne hgy (by decide) (e ▸ hk1)) fun e=>h.mr.vv k hk1 e),hs,hok,h.mr.gg,fun k hk1 hk2=>(hv k hk2).elim (fun e=>h.mr.vv k hk1 e) fun e=>by have:=(h.mr.o.own.lt k hk1).2;omega⟩,
   h.cr.kp hk (fun e=>e.elim (fun e=>Bk.neT h.cr.hd hgy (by decide) e) (h.mr.y.own_ne h.cr.hd (by decide))) (fun e=>e.elim (fun e=>h.cr.mp.neB hgy e.symm) (h.cr.mp.neO h.mr.y.own)),
   h.k.trans hk fun k _ e=>e.elim (fun e=>by rw[e];exact h.mr.y.ge) fun e=>(h.mr.y.own.lt k e).1⟩
/-- a store -/
theorem OpS.store (h:OpS w5 wr B1 g1 g2 gt bt n V1 V2 m cs) (a:Int) {x:Int} (hx:U64 x):Calls Tryz.prog 45 #[memV g1 g2,.int .i64 a,.int .u64 x] wr fun e w'=>e=.returned (.int .i64 (m.store a x).1)∧OpS w5 w' B1 g1 g2 gt bt n V1 V2 (m.store a x).2 cs∧Kp (memS V1 V2) wr w':=by
 refine(MStore_any h.mr a hx).mono ?_
 rintro e w' ⟨rfl,hm,hk⟩
 exact⟨rfl,⟨hm,h.cr.kp hk (fun e=>e.elim (h.mr.o.own_ne h.cr.hd (by decide)) (h.mr.y.own_ne h.cr.hd (by decide))) (fun e=>e.elim (h.cr.mp.neO h.mr.o.own) (h.cr.mp.neO h.mr.y.own)),h.k.trans hk fun k _ e=>e.elim (fun e=>(h.mr.o.own.lt k e).1) fun e=>(h.mr.y.own.lt k e).1⟩,hk⟩
/-- a mark -/
theorem OpS.mark (h:OpS w5 wr B1 g1 g2 gt bt n V1 V2 m cs) (hn:n < 1000000) (a:Int):Calls Tryz.prog 46 #[.pointer (some ⟨gt,0,none⟩),.int .i64 a] wr fun e w'=>e=.returned (.int .i64 (cardMark cs a).1)∧OpS w5 w' B1 g1 g2 gt bt (n+1) V1 V2 m (cardMark cs a).2:=by
 refine(Mark_any h.cr hn a).mono ?_
 rintro e w' ⟨rfl,hc,hk⟩
 exact⟨rfl,⟨h.mr.o.kp hk (fun e=>h.cr.mp.neB h.mr.o.hd e) (fun k hk1 e=>h.cr.mp.neO h.mr.o.own (e ▸ hk1)),h.mr.y.kp hk (fun e=>h.cr.mp.neB h.mr.y.hd e) (fun k hk1 e=>h.cr.mp.neO h.mr.y.own (e ▸ hk1)),h.mr.ok,h.mr.gg,h.mr.vv⟩,hc,h.k.trans hk fun k _ e=>by rw[e];exact h.cr.gm⟩
end
end
end Go.Proofs.YtaijmgkjbbiboaaGreat
