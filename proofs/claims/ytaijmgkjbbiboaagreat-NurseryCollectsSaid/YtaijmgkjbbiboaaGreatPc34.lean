/- Parts of the proof: Env10, Door10, Awk10, CardN. -/
import Derived.HandedShaped
import Derived.JoinedOf
import Derived.OpenShut
import Derived.ProofKit
import Derived.SizedLaws
import Derived.Test.YtaijmgkjbbiboaaGreatPcA
import Derived.Test.YtaijmgkjbbiboaaGreatRows
import Derived.Test.YtaijmgkjbbiboaaGreatPc0
import Derived.Test.YtaijmgkjbbiboaaGreatPc25
import Derived.Test.YtaijmgkjbbiboaaGreatPc31
import Derived.Test.YtaijmgkjbbiboaaGreatPc32
import Derived.Test.YtaijmgkjbbiboaaGreatPc33
import Derived.Test.YtaijmgkjbbiboaaGreatPc4
import Derived.Test.YtaijmgkjbbiboaaGreatPcSortK
set_option linter.unusedVariables false
set_option linter.unusedSimpArgs false
set_option linter.unusedSectionVars false
set_option maxRecDepth 100000
namespace Go.Proofs.YtaijmgkjbbiboaaGreat
section
open Go.RowKit Go.Sort
attribute [local go_sem] Oper.semAt_some onlyN_normal
/-- the blocks that a collection writes -/
def colS (g1 g2:Nat) (V1 V2:Value) (bt q:Nat):Prop:=q=g1 ∨ q=g2 ∨ V1.ownBlock=some q ∨ V2.ownBlock=some q ∨ q=bt
structure Env10 (w0 wn:World) (bm bx B1 g1 g2 gt bt k:Nat) (V1 V2:Value) (m:Mm) (cs:List Int) (s:W10) (A1:Option Addr) (c1:Nat) (A2:Option Addr) (c2:Nat) (A:Option Addr) (c:Nat) (Ax:Option Addr) (cx:Nat) (Ah:Option Addr) (ch:Nat):Prop where
 bl:Below w0.heap.size w0 wn
 h0:w0.heap.size≤B1
 hB:B1≤wn.heap.size
 mr:MR wn B1 g1 g2 V1 V2 m
 cr:CR wn B1 gt bt k cs
 kl:k≤1000
 rm:RM wn s.m A1 c1 A2 c2
 rc:RC wn s.cs A c
 ax:IS wn s.xs Ax cx
 far:∀ b o,A1=some ⟨b,o,none⟩ ∨ A2=some ⟨b,o,none⟩ ∨ A=some ⟨b,o,none⟩ ∨ Ax=some ⟨b,o,none⟩→b < B1
 hm:Bk wn bm 29 #[.pointer (some ⟨g1,0,none⟩),.pointer (some ⟨g2,0,none⟩)]
 hx:Bk wn bx 40 #[.int .i64 s.m.old.base,.int .i64 s.m.old.limit,.slice A1 s.m.old.ws.length c1,.int .i64 s.m.yng.base,.int .i64 s.m.yng.limit,.slice A2 s.m.yng.ws.length c2,.slice A s.cs.length c,.slice Ax s.xs.length cx,.slice Ah s.hs.length ch]
section
variable {w0 wn w':World} {bm bx B1 g1 g2 gt bt k:Nat} {V1 V2:Value} {m:Mm} {cs:List Int} {s:W10} {A1:Option Addr} {c1:Nat} {A2:Option Addr} {c2:Nat} {A:Option Addr} {c:Nat} {Ax:Option Addr} {cx:Nat} {Ah:Option Addr} {ch:Nat}
theorem Env10.below (h:Env10 w0 wn bm bx B1 g1 g2 gt bt k V1 V2 m cs s A1 c1 A2 c2 A c Ax cx Ah ch) (hb:Below wn.heap.size wn w'):Env10 w0 w' bm bx B1 g1 g2 gt bt k V1 V2 m cs s A1 c1 A2 c2 A c Ax cx Ah ch :=
 ⟨h.bl.trans (hb.mono h.bl.size),h.h0,Nat.le_trans h.hB hb.size,h.mr.below hb,h.cr.below hb,h.kl,h.rm.below hb,h.rc.below hb,h.ax.below hb,h.far,h.hm.below hb h.hm.lt,h.hx.below hb h.hx.lt⟩
/-- what a collection does not write -/
theorem Env10.off (h:Env10 w0 wn bm bx B1 g1 g2 gt bt k V1 V2 m cs s A1 c1 A2 c2 A c Ax cx Ah ch) {q:Nat} {t:TypeId} {C:Array Value} (hk:Bk wn q t C) (h1:t≠123) (h2:t≠54):¬ colS g1 g2 V1 V2 bt q:=fun e=>by
 rcases e with e | e | e | e | e
 ·exact Bk.neT hk h.mr.o.hd h1 e
 ·exact Bk.neT hk h.mr.y.hd h1 e
 ·exact h.mr.o.own_ne hk h2 e
 ·exact h.mr.y.own_ne hk h2 e
 ·exact h.cr.mp.neB hk e
theorem Env10.ge (h:Env10 w0 wn bm bx B1 g1 g2 gt bt k V1 V2 m cs s A1 c1 A2 c2 A c Ax cx Ah ch) {q:Nat} (e:colS g1 g2 V1 V2 bt q):B1≤q:=by
 rcases e with e | e | e | e | e
 ·rw[e];exact h.mr.o.ge
 ·rw[e];exact h.mr.y.ge
 ·exact(h.mr.o.own.lt q e).1
 ·exact(h.mr.y.own.lt q e).1
 ·rw[e];exact h.cr.gm
theorem Env10.lt (h:Env10 w0 wn bm bx B1 g1 g2 gt bt k V1 V2 m cs s A1 c1 A2 c2 A c Ax cx Ah ch) {q:Nat} (e:colS g1 g2 V1 V2 bt q):q < wn.heap.size:=by
 rcases e with e | e | e | e | e
 ·rw[e];exact h.mr.o.hd.lt
 ·rw[e];exact h.mr.y.hd.lt
 ·exact(h.mr.o.own.lt q e).2
 ·exact(h.mr.y.own.lt q e).2
 ·rw[e];exact h.cr.mp.lt
theorem IS.kpD {S:Nat→Prop} {w w':World} {l:List Int} {A:Option Addr} {c:Nat} (h:IS w l A c) (hk:Kp S w w') (hs:∀ b o,A=some ⟨b,o,none⟩→¬ S b):IS w' l A c:=⟨h.sl.kpN hk hs,h.cap⟩
theorem Env10.col (h:Env10 w0 wn bm bx B1 g1 g2 gt bt k V1 V2 m cs s A1 c1 A2 c2 A c Ax cx Ah ch) {C:Col} {e:Ending} (hp:ColP wn B1 B1 g1 g2 gt bt k V1 V2 C e w'):∃ v V1' V2' k',e=.returned (.tuple #[v,.int .i64 (C.n:Int),.int .i64 C.e])∧w'.ownsRow wn.heap.size 54 1 v C.out.length (wds C.out)∧Env10 w0 w' bm bx B1 g1 g2 gt bt k' V1' V2' C.m C.cs s A1 c1 A2 c2 A c Ax cx Ah ch∧(∀ q,v.ownBlock=some q→¬ colS g1 g2 V1' V2' bt q)∧Kp (colS g1 g2 V1 V2 bt) wn w':=by
 obtain⟨v,V1',V2',k',he,ho,hmr,hcr,⟨n1,n2,n3⟩,hk,hkk⟩:=hp
 have hfar:∀ b o,A1=some ⟨b,o,none⟩ ∨ A2=some ⟨b,o,none⟩ ∨ A=some ⟨b,o,none⟩ ∨ Ax=some ⟨b,o,none⟩→¬ colS g1 g2 V1 V2 bt b:=fun b o e hb=>by
  have h1:=h.far b o e
  have h2:=h.ge hb
  omega
 have hk':Kp (colS g1 g2 V1 V2 bt) wn w':=hk
 refine⟨v,V1',V2',k',he,ho,⟨hk'.toBelow h.bl h.bl.size fun q e=>Nat.le_trans h.h0 (h.ge e),h.h0,Nat.le_trans h.hB hk.size,hmr,hcr,?_,h.rm.kp hk' fun b o e=>hfar b o (e.imp id .inl),h.rc.kp hk' fun b o e=>hfar b o (.inr (.inr (.inl e))),h.ax.kpD hk' fun b o e=>hfar b o (.inr (.inr (.inr e))),h.far,h.hm.kp hk' (h.off h.hm (by decide) (by decide)),h.hx.kp hk' (h.off h.hx (by decide) (by decide))⟩,fun q hq e=>?_,hk'⟩
 ·rcases hkk with e | e
  ·rw[e];exact h.kl
  ·omega
 ·have h1:=(ho.lt q hq).1
  have h2:=h.mr.o.hd.lt
  have h3:=h.mr.y.hd.lt
  have h4:=h.cr.mp.lt
  rcases e with e | e | e | e | e
  ·omega
  ·omega
  ·exact(n3 q hq).1 e
  ·exact(n3 q hq).2 e
  ·omega
theorem Env10.roots (h:Env10 w0 wn bm bx B1 g1 g2 gt bt k V1 V2 m cs s A1 c1 A2 c2 A c Ax cx Ah ch) {chs:List Int} {Ac:Option Addr} {cc:Nat} (hx:s.xs.length≤1000000) (h2:IS wn chs Ac cc) (hl2:chs.length≤1000000) (hr:∀ x∈chs,-9223372036854775808≤x∧x≤9223372036854775807):Calls Tryz.prog 13 #[.agg #[.int .i64 s.m.old.base,.int .i64 s.m.old.limit,.slice A1 s.m.old.ws.length c1,.int .i64 s.m.yng.base,.int .i64 s.m.yng.limit,.slice A2 s.m.yng.ws.length c2,.slice A s.cs.length c,.slice Ax s.xs.length cx,.slice Ah s.hs.length ch],.slice Ac chs.length cc] wn (Rts10P wn (rts10 s.xs chs)):=Roots10_any h.ax hx h2 hl2 hr
theorem Env10.collect (h:Env10 w0 wn bm bx B1 g1 g2 gt bt k V1 V2 m cs s A1 c1 A2 c2 A c Ax cx Ah ch) {roots:List Int} {Ar:Option Addr} {cr:Nat} (hs:Sl wn 1 Ar roots.length (wds roots)) (hlc:roots.length≤cr) (hll:roots.length≤1000) (hru:∀ x∈roots,U64 x) (hA:∀ b o,Ar=some ⟨b,o,none⟩→b < wn.heap.size∧¬ colS g1 g2 V1 V2 bt b) (hm:m.size≤40000000):Calls Tryz.prog 17 #[.agg #[.pointer (some ⟨g1,0,none⟩),.pointer (some ⟨g2,0,none⟩)],.pointer (some ⟨gt,0,none⟩),.slice Ar roots.length cr] wn (ColP wn B1 B1 g1 g2 gt bt k V1 V2 (m.collect m.yng.chk cs roots)) :=
 Collect_any h.mr h.hB h.cr hs hlc (by omega) hru (fun b o e=>⟨(hA b o e).1,fun e'=>(hA b o e).2 (.inl e'),fun e'=>(hA b o e).2 (.inr (.inr (.inl e'))),fun e'=>(hA b o e).2 (.inr (.inr (.inr (.inl e'))))⟩) hm
end
theorem Env10.start {w w2:World} {s:W10} {e:Ending} (hp:Op10P w s e w2) (hl:s.cs.length≤1000):∃ g1 g2 V1 V2 gt bt k A1 c1 A2 c2 A c Ax cx Ah ch B1,e=.returned (.tuple #[.agg #[.pointer (some ⟨g1,0,none⟩),.pointer (some ⟨g2,0,none⟩)],.pointer (some ⟨gt,0,none⟩),.agg #[.int .i64 s.m.old.base,.int .i64 s.m.old.limit,.slice A1 s.m.old.ws.length c1,.int .i64 s.m.yng.base,.int .i64 s.m.yng.limit,.slice A2 s.m.yng.ws.length c2,.slice A s.cs.length c,.slice Ax s.xs.length cx,.slice Ah s.hs.length ch],.bool true])∧Env10 w ((w2.alloc (.cells #[.pointer (some ⟨g1,0,none⟩),.pointer (some ⟨g2,0,none⟩)] 29)).alloc (.cells #[.int .i64 s.m.old.base,.int .i64 s.m.old.limit,.slice A1 s.m.old.ws.length c1,.int .i64 s.m.yng.base,.int .i64 s.m.yng.limit,.slice A2 s.m.yng.ws.length c2,.slice A s.cs.length c,.slice Ax s.xs.length cx,.slice Ah s.hs.length ch] 40)) w2.heap.size (w2.heap.size+1) B1 g1 g2 gt bt k V1 V2 s.m s.cs s A1 c1 A2 c2 A c Ax cx Ah ch:=by
 obtain⟨g1,g2,V1,V2,gt,bt,k,A1,c1,A2,c2,A,c,Ax,cx,Ah,ch,B1,rfl,h1,h2,hmr,hcr,hk,hrm,hrc,hax,hah,hfar,hb⟩:=hp
 have hb1:Below w2.heap.size w2 ((w2.alloc (.cells #[.pointer (some ⟨g1,0,none⟩),.pointer (some ⟨g2,0,none⟩)] 29)).alloc (.cells #[.int .i64 s.m.old.base,.int .i64 s.m.old.limit,.slice A1 s.m.old.ws.length c1,.int .i64 s.m.yng.base,.int .i64 s.m.yng.limit,.slice A2 s.m.yng.ws.length c2,.slice A s.cs.length c,.slice Ax s.xs.length cx,.slice Ah s.hs.length ch] 40)):=((Below.refl _ w2).alloc (Nat.le_refl _) _).alloc (by simp) _
 obtain⟨A',c',e',hc'⟩:=own_shape hax
 injection e' with e1 e2 e3
 subst e1 e3
 refine⟨g1,g2,V1,V2,gt,bt,k,A1,c1,A2,c2,A,c,Ax,cx,Ah,ch,B1,rfl,hb.trans (hb1.mono hb.size),h1,Nat.le_trans h2 hb1.size,hmr.below hb1,hcr.below hb1,by omega,hrm.below hb1,hrc.below hb1,⟨(own_sl hax).below hb1,hc'⟩,fun b o e=>hfar b o (by rcases e with e | e | e | e;exact .inl e;exact .inr (.inl e);exact .inr (.inr (.inl e));exact .inr (.inr (.inr (.inl e)))),Bk.alloc (Bk.new _ _ _) _,Bk.here _ _ _ (by simp)⟩
theorem In10.size {limit:Int} {s:W10} {n:Nat} (h:In10 limit s n):s.m.size≤40000000:=by
 have h1:=h.ok.o.lim
 have h2:=h.ok.ol
 have h3:=h.ok.y.lim
 have h4:=h.ly
 have h5:=h.ok.yb
 have h6:=h.ok.ob
 unfold lim at h4
 unfold Mm.size
 omega
theorem Many10_any {w:World} {Al:Option Addr} {n cl r:Nat}:Calls Tryz.prog 10 #[.slice Al n cl,.int .i64 (r:Int)] w fun e w'=>e=.returned (.bool (decide (60 < n ∨ 20 < r)))∧w=w':=by
 by_cases h0:60 < n
 ·have d0:decide ((n:Int) > 60)=true:=decide_eq_true (by omega)
  have HR:Hid (60 < n):=lh h0
  clear h0
  go_enter Tryz.func10,Tryz.ntmps10
  go_wp2_with fail
  go_ret
  exact⟨ret_bool (decide_eq_true (.inl HR.out)).symm,rfl⟩
 ·have d0:decide ((n:Int) > 60)=false:=decide_eq_false (by omega)
  have HR:Hid (¬ 60 < n):=lh h0
  clear h0
  by_cases h1:20 < r
  ·have d1:decide ((r:Int) > 20)=true:=decide_eq_true (by omega)
   have HR1:=lh h1
   clear h1
   go_enter Tryz.func10,Tryz.ntmps10
   go_wp2_with fail
   go_ret
   exact⟨ret_bool (decide_eq_true (.inr HR1.out)).symm,rfl⟩
  ·have d1:decide ((r:Int) > 20)=false:=decide_eq_false (by omega)
   have HR1:=lh h1
   clear h1
   go_enter Tryz.func10,Tryz.ntmps10
   go_wp2_with fail
   go_ret
   exact⟨ret_bool (decide_eq_false (by rintro(h | h);exact HR.out h;exact HR1.out h)).symm,rfl⟩
end
section
open Go.ChangeShapes Go.WideShapes Go.ChangeAt Go.RowKit Go.Deep
theorem own:ownKnob Tryz.prog.godebug=none:=by kernel_rfl
theorem laidOut:laidOutB Tryz.prog=true:=by kernel_rfl
def OpR (w:World) (o:OpV) (r:List Value):Prop:=r=o.cells.toList∧o.Ok
theorem cellsOp:Tryz.prog.cellsOf 87=9:=by kernel_rfl
def IntR (w:World) (x:Int) (r:List Value):Prop:=r=[.int .i64 x]∧-9223372036854775808≤x∧x≤9223372036854775807
def WrdR (w:World) (x:Int) (r:List Value):Prop:=r=[.int .u64 x]∧U64 x
section
variable {H:Type} {enc:TypeId × Value→H} {w:World} {base:Nat} {spare:Nat→Bool} {held:Bool}
theorem open_opR (fuel:Nat) (cs:List Value) (x:DataW H × List MemPlace) (hlen:cs.length=9) (h:DataW.trod enc Tryz.prog w base spare held fuel 87 cs=some x) (_:Wgt Tryz.prog 87 x.1):∃ y,OpR w y cs:=by
 obtain⟨xs,n,_,_,_,hxl,hg⟩:=DataW.trod_struct Tryz.underlying87 h
 match cs,hlen with
 | [u0,u1,u2,u3,u4,u5,u6,u7,u8],_ =>
  match xs,hxl with
  | [y0,y1,y2,y3,y4,y5,y6],_ =>
   have h0:DataW.trod enc Tryz.prog w base spare held n 5 (([u0,u1,u2,u3,u4,u5,u6,u7,u8].drop 0).take (Tryz.prog.cellsOf 5))=some y0:=hg 0 _ rfl
   have h1:DataW.trod enc Tryz.prog w base spare held n 58 (([u0,u1,u2,u3,u4,u5,u6,u7,u8].drop 1).take (Tryz.prog.cellsOf 58))=some y1:=hg 1 _ rfl
   have h2:DataW.trod enc Tryz.prog w base spare held n 3 (([u0,u1,u2,u3,u4,u5,u6,u7,u8].drop 4).take (Tryz.prog.cellsOf 3))=some y2:=hg 2 _ rfl
   have h3:DataW.trod enc Tryz.prog w base spare held n 3 (([u0,u1,u2,u3,u4,u5,u6,u7,u8].drop 5).take (Tryz.prog.cellsOf 3))=some y3:=hg 3 _ rfl
   have h4:DataW.trod enc Tryz.prog w base spare held n 3 (([u0,u1,u2,u3,u4,u5,u6,u7,u8].drop 6).take (Tryz.prog.cellsOf 3))=some y4:=hg 4 _ rfl
   have h5:DataW.trod enc Tryz.prog w base spare held n 54 (([u0,u1,u2,u3,u4,u5,u6,u7,u8].drop 7).take (Tryz.prog.cellsOf 54))=some y5:=hg 5 _ rfl
   have h6:DataW.trod enc Tryz.prog w base spare held n 4 (([u0,u1,u2,u3,u4,u5,u6,u7,u8].drop 8).take (Tryz.prog.cellsOf 4))=some y6:=hg 6 _ rfl
   rw[cellsInt] at h2 h3 h4
   rw[cellsU8] at h0
   rw[cellsHdr] at h1
   rw[cellsU64] at h5
   rw[cellsBool] at h6
   obtain⟨k,e0,_,w0⟩:=DataW.trod_int Tryz.underlying5 (show DataW.trod enc Tryz.prog w base spare held n 5 [u0]=some y0 from h0)
   obtain⟨hd,e1⟩:=open_hdr (show DataW.trod enc Tryz.prog w base spare held n 58 [u1,u2,u3]=some y1 from h1)
   obtain⟨a,e2,_,w2⟩:=DataW.trod_int Tryz.underlying3 (show DataW.trod enc Tryz.prog w base spare held n 3 [u4]=some y2 from h2)
   obtain⟨b,e3,_,w3⟩:=DataW.trod_int Tryz.underlying3 (show DataW.trod enc Tryz.prog w base spare held n 3 [u5]=some y3 from h3)
   obtain⟨i,e4,_,w4⟩:=DataW.trod_int Tryz.underlying3 (show DataW.trod enc Tryz.prog w base spare held n 3 [u6]=some y4 from h4)
   obtain⟨v,e5,_,w5⟩:=DataW.trod_int Tryz.underlying54 (show DataW.trod enc Tryz.prog w base spare held n 54 [u7]=some y5 from h5)
   obtain⟨r,e6,_⟩:=DataW.trod_bool Tryz.underlying4 (show DataW.trod enc Tryz.prog w base spare held n 4 [u8]=some y6 from h6)
   simp only[List.cons.injEq,and_true] at e0 e1 e2 e3 e4 e5 e6
   obtain⟨rfl,rfl,rfl⟩:=e1
   subst e0 e2 e3 e4 e5 e6
   have k0:0≤k∧k≤255:=by simp[Lit.wf,IntKind.min,IntKind.max,IntKind.signed,IntKind.bits] at w0;omega
   have v0:U64 v:=by unfold U64;simp[Lit.wf,IntKind.min,IntKind.max,IntKind.signed,IntKind.bits] at w5;omega
   exact⟨⟨k,hd,a,b,i,v,r⟩,rfl,⟨k0.1,k0.2,(wf_i64b w2).1,(wf_i64b w2).2,(wf_i64b w3).1,(wf_i64b w3).2,v0⟩⟩
theorem open_int1 (fuel:Nat) (cs:List Value) (x:DataW H × List MemPlace) (hlen:cs.length=1) (h:DataW.trod enc Tryz.prog w base spare held fuel 3 cs=some x) (_:Wgt Tryz.prog 3 x.1):∃ y,IntR w y cs:=by
 match cs,hlen with
 | [u0],_ =>
  obtain⟨k,e0,_,w0⟩:=DataW.trod_int Tryz.underlying3 h
  simp only[List.cons.injEq,and_true] at e0
  subst e0
  exact⟨k,rfl,wf_i64b w0⟩
theorem open_wrd1 (fuel:Nat) (cs:List Value) (x:DataW H × List MemPlace) (hlen:cs.length=1) (h:DataW.trod enc Tryz.prog w base spare held fuel 54 cs=some x) (_:Wgt Tryz.prog 54 x.1):∃ y,WrdR w y cs:=by
 match cs,hlen with
 | [u0],_ =>
  obtain⟨k,e0,_,w0⟩:=DataW.trod_int Tryz.underlying54 h
  simp only[List.cons.injEq,and_true] at e0
  subst e0
  have v0:U64 k:=by unfold U64;simp[Lit.wf,IntKind.min,IntKind.max,IntKind.signed,IntKind.bits] at w0;omega
  exact⟨k,rfl,v0⟩
end
section
variable {w:World}
theorem open_ops10 {H:Type} {enc:TypeId × Value→H} {base b0:Nat} {r:_root_.Go.Reach} {spare:Nat→Bool} {held:Bool} {v:Value} {d:DataW H} {p:List MemPlace} (hv:Value.okWide Tryz.prog w r b0 22 v) (h:DataW.Trod enc Tryz.prog w base spare held 22 v d p) (hw:Wgt Tryz.prog 22 d) :
  ∃ A c ops,v=.slice A ops.length c∧ops.length≤c∧Op10 w A ops:=by
 obtain⟨X,l,c,rfl⟩:=Go.WideShapes.okWide_slice Tryz.underlying22 hv
 obtain⟨fuel,hf⟩:=h
 obtain⟨A,n,c',e,h1,h2,xs,hxs⟩:=open_slR OpR Tryz.underlying22 cellsOp (show Tryz.prog.bytesOf 87=72 by kernel_rfl) (by omega) (by omega) open_opR (show DataW.trod enc Tryz.prog w base spare held fuel 22 [.slice X l c]=some (d,p) from hf) hw
 obtain⟨g1,g2⟩:=hxs
 subst g1
 refine⟨A,c',xs,e,h1,?_⟩
 rcases g2 with g2 | ⟨b,o,g3,g4,g5⟩
 ·exact .inl (List.length_eq_zero_iff.1 g2)
 ·refine .inr ⟨b,o,g3,g4,fun i x hx=>?_⟩
  obtain⟨r,_,⟨hr,hok⟩,hc⟩:=g5 i x hx
  exact⟨hok,fun j v hv=>hc j v (by rw[hr];simpa using hv)⟩
theorem open_ints10 {H:Type} {enc:TypeId × Value→H} {base b0:Nat} {r:_root_.Go.Reach} {spare:Nat→Bool} {held:Bool} {v:Value} {d:DataW H} {p:List MemPlace} (hv:Value.okWide Tryz.prog w r b0 23 v) (h:DataW.Trod enc Tryz.prog w base spare held 23 v d p) (hw:Wgt Tryz.prog 23 d) :
  ∃ A c l,v=.slice A l.length c∧l.length≤140737488351232∧IS w l A c∧∀ x∈l,-9223372036854775808≤x∧x≤9223372036854775807:=by
 obtain⟨X,l,c,rfl⟩:=Go.WideShapes.okWide_slice Tryz.underlying23 hv
 obtain⟨fuel,hf⟩:=h
 obtain⟨A,n,c',e,h1,h2,xs,hxs⟩:=open_slR IntR Tryz.underlying23 cellsInt (show Tryz.prog.bytesOf 3=8 by kernel_rfl) (by omega) (by omega) open_int1 (show DataW.trod enc Tryz.prog w base spare held fuel 23 [.slice X l c]=some (d,p) from hf) hw
 have hall:=hxs.all (P:=fun x=>-9223372036854775808≤x∧x≤9223372036854775807) fun x r hr=>hr.2
 obtain⟨g1,g2⟩:=hxs
 subst g1
 refine⟨A,c',xs,e,h2,⟨⟨by simp[ints],?_⟩,h1⟩,hall⟩
 rcases g2 with g2 | ⟨b,o,g3,g4,g5⟩
 ·exact .inl g2
 ·refine .inr ⟨b,o,g3,g4,fun j v hv=>?_⟩
  obtain⟨x,hx,rfl⟩:∃ x,xs[j]?=some x∧.int .i64 x=v:=by simpa [ints] using hv
  obtain⟨r,_,⟨hr,_⟩,hc⟩:=g5 j x hx
  have:=hc 0 (.int .i64 x) (by rw[hr];rfl)
  simpa using this
theorem slice_lt {r:_root_.Go.Reach} {b0:Nat} {b o n c:Nat} (hv:Value.okWide Tryz.prog w r b0 31 (.slice (some ⟨b,o,none⟩) n c)):b < w.heap.size:=by
 simp only[Value.okWide,Tryz.underlying31,Cell.okWide,Cell.ok] at hv
 have h:=hv.2.2
 simp only[World.has] at h
 obtain⟨_,_,row,cells,hs,_⟩:=h
 by_cases hb:b < w.heap.size
 ·exact hb
 ·unfold World.shape? at hs
  rw[Array.getElem?_eq_none (by omega)] at hs
  cases hs
theorem open_words10 {H:Type} {enc:TypeId × Value→H} {base b0:Nat} {r:_root_.Go.Reach} {spare:Nat→Bool} {held:Bool} {v:Value} {d:DataW H} {p:List MemPlace} (hv:Value.okWide Tryz.prog w r b0 31 v) (h:DataW.Trod enc Tryz.prog w base spare held 31 v d p) (hw:Wgt Tryz.prog 31 d) :
  ∃ A c l,v=.slice A l.length c∧Sl w 1 A l.length (wds l)∧l.length≤c∧(∀ x∈l,U64 x)∧∀ b o,A=some ⟨b,o,none⟩→b < w.heap.size:=by
 obtain⟨X,l,c,rfl⟩:=Go.WideShapes.okWide_slice Tryz.underlying31 hv
 obtain⟨fuel,hf⟩:=h
 obtain⟨A,n,c',e,h1,h2,xs,hxs⟩:=open_slR WrdR Tryz.underlying31 cellsU64 (show Tryz.prog.bytesOf 54=8 by kernel_rfl) (by omega) (by omega) open_wrd1 (show DataW.trod enc Tryz.prog w base spare held fuel 31 [.slice X l c]=some (d,p) from hf) hw
 have hall:=hxs.all (P:=fun x=>U64 x) fun x r hr=>hr.2
 obtain⟨g1,g2⟩:=hxs
 subst g1
 refine⟨A,c',xs,e,⟨by simp[wds],?_⟩,h1,hall,fun b o hA=>?_⟩
 ·rcases g2 with g2 | ⟨b,o,g3,g4,g5⟩
  ·exact .inl g2
  ·refine .inr ⟨b,o,g3,g4,fun j v hv=>?_⟩
   obtain⟨x,hx,rfl⟩:∃ x,xs[j]?=some x∧.int .u64 x=v:=by simpa [wds] using hv
   obtain⟨r,_,⟨hr,_⟩,hc⟩:=g5 j x hx
   have:=hc 0 (.int .u64 x) (by rw[hr];rfl)
   simpa using this
 ·rw[e,hA] at hv
  exact slice_lt hv
end
end
section
open Go.RowKit Go.Sort
attribute [local go_sem] Oper.semAt_some onlyN_normal
theorem flat_getN {α:Type} {f:α→List Value} {s:Nat} (hf:∀ x,(f x).length=s):∀ (l:List α) (i:Nat) (x:α),l[i]?=some x→∀ j,j < s→(l.flatMap f)[i*s+j]?=(f x)[j]?
 | [],i,x,h,_,_=>by simp at h
 | y::l,0,x,h,j,hj=>by
  simp at h
  subst h
  rw[List.flatMap_cons,Nat.zero_mul,Nat.zero_add,List.getElem?_append_left (by rw[hf];exact hj)]
 | y::l,i+1,x,h,j,hj=>by
  have ih:=flat_getN hf l i x (by simpa using h) j hj
  rw[List.flatMap_cons,Nat.succ_mul,List.getElem?_append_right (by rw[hf];omega),hf,show i*s+s+j - s=i*s+j by omega]
  exact ih
theorem Op10.ofBk {w:World} {g:Nat} {t:TypeId} {l:List OpV} (h:Bk w g t (l.flatMap fun x=>x.cells.toList).toArray) (hl:∀ x∈l,x.Ok):Op10 w (some ⟨g,0,none⟩) l :=
 .inr ⟨g,0,rfl,h.lt,fun i x hx=>⟨hl x (List.mem_of_getElem? hx),fun j v hv=>by
  have hj:j < 9:=(Array.getElem?_eq_some_iff.1 hv).1
  have e:=flat_getN (f:=fun x:OpV=>x.cells.toList) (s:=9) (fun _=>rfl) l i x hx j hj
  have h2:=h.cell (0+i*9+j)
  rw[Nat.zero_add] at h2 ⊢
  rw[h2,List.getElem?_toArray,e]
  simpa using hv⟩⟩
def oA:List OpV:=[⟨1,⟨0,1,1⟩,0,0,0,0,false⟩,⟨1,⟨0,1,1⟩,0,0,0,0,false⟩,⟨1,⟨0,1,1⟩,0,0,0,0,false⟩,⟨2,⟨0,0,0⟩,0,1,0,0,true⟩]
theorem oA_ok:∀ x∈oA,x.Ok:=by
 intro x hx
 unfold oA at hx
 simp only[List.mem_cons,List.not_mem_nil,or_false] at hx
 rcases hx with rfl | rfl | rfl | rfl <;> exact⟨by decide,by decide,by decide,by decide,by decide,by decide,⟨by decide,by decide⟩⟩
def cA:Col:=(bld10 100 oA).m.collect (bld10 100 oA).m.yng.chk (bld10 100 oA).cs (rts10 (bld10 100 oA).xs [1,0])
theorem cA_e:cA.e=0:=by kernel_rfl
theorem cA_n:cA.n=2:=by kernel_rfl
theorem cA_o:cA.out=[2,18]:=by kernel_rfl
theorem cA_y:cA.m.yng.top=16777216:=by kernel_rfl
theorem cA_t:cA.m.old.top=8:=by kernel_rfl
theorem cA_s:(bld10 100 oA).m.size=12:=by kernel_rfl
theorem cA_l:oA.length=4:=rfl
theorem adds_new {P:Program} {W:World} {vs:Nat→Value} {w w':World} {T:Value→World→Prop} {hT:∀ v w w',T v w→Below w.heap.size w w'→T v w'} {x:Value} (h:T x w') (hb:Below w.heap.size w w'):Made P (Adds (Ent.of (W:=W) T hT) vs w) (.ok (.value x) w'):=⟨h,hb,(fun k hk=>nomatch hk)⟩
set_option maxHeartbeats 16000000 in
theorem awake10_any (w:World):Calls Tryz.prog 9 #[] w fun e w'=>e=.returned (.bool true)∧Below w.heap.size w w':=by
 go_enter Tryz.func9,Tryz.ntmps9
 go_upto_region 2 with fail
 have hba:Below w.heap.size w (w.alloc (.cells #[.int .i64 0,.int .i64 1,.int .i64 1] 58)):=(Below.refl _ _).alloc (Nat.le_refl _) _
 have hq1:Bk (w.alloc (.cells #[.int .i64 0,.int .i64 1,.int .i64 1] 58)) w.heap.size 58 #[.int .i64 0,.int .i64 1,.int .i64 1]:=Bk.new _ _ _
 generalize w.alloc (.cells #[.int .i64 0,.int .i64 1,.int .i64 1] 58)=w1 at *
 have hlt:w.heap.size < w1.heap.size:=hq1.lt
 have o0:w1.cell? ⟨w.heap.size,0,none⟩=some (.int .i64 0):=hq1.cell 0
 have o1:w1.cell? ⟨w.heap.size,1,none⟩=some (.int .i64 1):=hq1.cell 1
 have o2:w1.cell? ⟨w.heap.size,2,none⟩=some (.int .i64 1):=hq1.cell 2
 have hb2:Below w1.heap.size w1 (w1.alloc (.cells #[.int .u8 1,.int .i64 0,.int .i64 1,.int .i64 1,.int .i64 0,.int .i64 0,.int .i64 0,.int .u64 0,.bool false,.int .u8 1,.int .i64 0,.int .i64 1,.int .i64 1,.int .i64 0,.int .i64 0,.int .i64 0,.int .u64 0,.bool false,.int .u8 1,.int .i64 0,.int .i64 1,.int .i64 1,.int .i64 0,.int .i64 0,.int .i64 0,.int .u64 0,.bool false,.int .u8 2,.int .i64 0,.int .i64 0,.int .i64 0,.int .i64 0,.int .i64 1,.int .i64 0,.int .u64 0,.bool true] 87)):=(Below.refl _ _).alloc (Nat.le_refl _) _
 have hq:Bk (w1.alloc (.cells #[.int .u8 1,.int .i64 0,.int .i64 1,.int .i64 1,.int .i64 0,.int .i64 0,.int .i64 0,.int .u64 0,.bool false,.int .u8 1,.int .i64 0,.int .i64 1,.int .i64 1,.int .i64 0,.int .i64 0,.int .i64 0,.int .u64 0,.bool false,.int .u8 1,.int .i64 0,.int .i64 1,.int .i64 1,.int .i64 0,.int .i64 0,.int .i64 0,.int .u64 0,.bool false,.int .u8 2,.int .i64 0,.int .i64 0,.int .i64 0,.int .i64 0,.int .i64 1,.int .i64 0,.int .u64 0,.bool true] 87)) w1.heap.size 87 #[.int .u8 1,.int .i64 0,.int .i64 1,.int .i64 1,.int .i64 0,.int .i64 0,.int .i64 0,.int .u64 0,.bool false,.int .u8 1,.int .i64 0,.int .i64 1,.int .i64 1,.int .i64 0,.int .i64 0,.int .i64 0,.int .u64 0,.bool false,.int .u8 1,.int .i64 0,.int .i64 1,.int .i64 1,.int .i64 0,.int .i64 0,.int .i64 0,.int .u64 0,.bool false,.int .u8 2,.int .i64 0,.int .i64 0,.int .i64 0,.int .i64 0,.int .i64 1,.int .i64 0,.int .u64 0,.bool true]:=Bk.new _ _ _
 have cO:=Open10_any (Op10.ofBk (l:=oA) hq oA_ok) (Nat.le_refl _) (by decide) 100
 have HB0:=lh (hba.trans (hb2.mono hba.size))
 have HQ:=lh hq
 obtain⟨Q0,hQ0⟩:∃ Q0,Q0=fun(e:Ending) (w':World)=>Op10P (w1.alloc (.cells #[.int .u8 1,.int .i64 0,.int .i64 1,.int .i64 1,.int .i64 0,.int .i64 0,.int .i64 0,.int .u64 0,.bool false,.int .u8 1,.int .i64 0,.int .i64 1,.int .i64 1,.int .i64 0,.int .i64 0,.int .i64 0,.int .u64 0,.bool false,.int .u8 1,.int .i64 0,.int .i64 1,.int .i64 1,.int .i64 0,.int .i64 0,.int .i64 0,.int .u64 0,.bool false,.int .u8 2,.int .i64 0,.int .i64 0,.int .i64 0,.int .i64 0,.int .i64 1,.int .i64 0,.int .u64 0,.bool true] 87)) (bld10 100 oA) e w'∧In10 100 (bld10 100 oA) oA.length:=⟨_,rfl⟩
 rw[← hQ0] at cO
 replace cO:Calls Tryz.prog 12 #[.int .i64 100,.slice (some ⟨w1.heap.size,0,none⟩) 4 4] (w1.alloc (.cells #[.int .u8 1,.int .i64 0,.int .i64 1,.int .i64 1,.int .i64 0,.int .i64 0,.int .i64 0,.int .u64 0,.bool false,.int .u8 1,.int .i64 0,.int .i64 1,.int .i64 1,.int .i64 0,.int .i64 0,.int .i64 0,.int .u64 0,.bool false,.int .u8 1,.int .i64 0,.int .i64 1,.int .i64 1,.int .i64 0,.int .i64 0,.int .i64 0,.int .u64 0,.bool false,.int .u8 2,.int .i64 0,.int .i64 0,.int .i64 0,.int .i64 0,.int .i64 1,.int .i64 0,.int .u64 0,.bool true] 87)) Q0:=cO
 clear hq hb2 hba
 go_wp2_with fail
 refine cO.mono ?_
 rintro e w2 hbp
 rw[hQ0] at hbp
 obtain⟨hop,hin⟩:=hbp
 obtain⟨g1,g2,V1,V2,gt,bt,k,A1,u1,A2,u2,A,u,Ax,cx,Ah,ch,B1,rfl,hen⟩:=Env10.start hop (by have:=hin.cs.len;rw[cA_l] at this;omega)
 have HE:Hid (cA.e=0∧cA.n=2∧cA.out=[2,18]∧cA.m.yng.top=16777216∧cA.m.old.top=8∧(bld10 100 oA).m.size=12):=lh ⟨cA_e,cA_n,cA_o,cA_y,cA_t,cA_s⟩
 unfold cA at HE
 obtain⟨s,hs⟩:∃ s,s=bld10 100 oA:=⟨_,rfl⟩
 rw[← hs] at HE hen hin ⊢
 have HEN:=lh hen
 have HXL:Hid (s.xs.length≤1000):=lh (by have:=hin.xl;rw[cA_l] at this;omega)
 have HIN:=lh hin
 clear hs hop hen hin cO hQ0 o0 o1 o2 hq1 hlt
 go_upto_region 5 with fail
 generalize (w2.alloc (.cells #[.pointer (some ⟨g1,0,none⟩),.pointer (some ⟨g2,0,none⟩)] 29)).alloc (.cells #[.int .i64 s.m.old.base,.int .i64 s.m.old.limit,.slice A1 s.m.old.ws.length u1,.int .i64 s.m.yng.base,.int .i64 s.m.yng.limit,.slice A2 s.m.yng.ws.length u2,.slice A s.cs.length u,.slice Ax s.xs.length cx,.slice Ah s.hs.length ch] 40)=w3 at *
 obtain⟨bm,hbm⟩:∃ bm,bm=w2.heap.size:=⟨_,rfl⟩
 obtain⟨bx,hbx⟩:∃ bx,bx=w2.heap.size+1:=⟨_,rfl⟩
 rw[← hbx,← hbm] at HEN
 rw[← hbx,← hbm]
 clear hbm hbx
 have HM:=lh HEN.out.hm
 have HX:=lh HEN.out.hx
 refine wp_region_first 5 (fun i=>([[],[],[],[],[2,3]]:List (List Nat)).getD i []) (EL [Ent.val (.agg #[.pointer (some ⟨g1,0,none⟩),.pointer (some ⟨g2,0,none⟩)]),Ent.val (.pointer (some ⟨gt,0,none⟩)),Ent.val (.agg #[.int .i64 s.m.old.base,.int .i64 s.m.old.limit,.slice A1 s.m.old.ws.length u1,.int .i64 s.m.yng.base,.int .i64 s.m.yng.limit,.slice A2 s.m.yng.ws.length u2,.slice A s.cs.length u,.slice Ax s.xs.length cx,.slice Ah s.hs.length ch]),Ent.of (IsT w3.heap.size [1,0]) IsT.bl,Ent.of (WsT w3.heap.size (rts10 s.xs [1,0])) WsT.bl]) rfl (by kernel_rfl) (by kernel_rfl) (by kernel_rfl) (by rfl) ?_ ?_
 ·intro i hi o ho vs w1 hb1 hgr
  rcases (show i=0 ∨ i=1 ∨ i=2 ∨ i=3 ∨ i=4 by omega) with rfl | rfl | rfl | rfl | rfl <;> cases ho
  ·clear hgr
   change Made _ (Adds _ _ _) (Sem.run _ (execOp (Act.eval (frm _ _ _ [])) _) _)
   simp only[frm]
   have hbk:=HM.out.below hb1 HM.out.lt
   have c0:w1.cell? ⟨bm,0,none⟩=some (.pointer (some ⟨g1,0,none⟩)):=hbk.cell 0
   have c1:w1.cell? ⟨bm,1,none⟩=some (.pointer (some ⟨g2,0,none⟩)):=hbk.cell 1
   clear hbk
   go_simp
   exact adds_val rfl
  ·clear hgr
   change Made _ (Adds _ _ _) (Sem.run _ (execOp (Act.eval (frm _ _ _ [])) _) _)
   simp only[frm]
   go_simp
   exact adds_val rfl
  ·clear hgr
   change Made _ (Adds _ _ _) (Sem.run _ (execOp (Act.eval (frm _ _ _ [])) _) _)
   simp only[frm]
   have hbk:=HX.out.below hb1 HX.out.lt
   have c0:w1.cell? ⟨bx,0,none⟩=some (.int .i64 s.m.old.base):=hbk.cell 0
   have c1:w1.cell? ⟨bx,1,none⟩=some (.int .i64 s.m.old.limit):=hbk.cell 1
   have c2:w1.cell? ⟨bx,2,none⟩=some (.slice A1 s.m.old.ws.length u1):=hbk.cell 2
   have c3:w1.cell? ⟨bx,3,none⟩=some (.int .i64 s.m.yng.base):=hbk.cell 3
   have c4:w1.cell? ⟨bx,4,none⟩=some (.int .i64 s.m.yng.limit):=hbk.cell 4
   have c5:w1.cell? ⟨bx,5,none⟩=some (.slice A2 s.m.yng.ws.length u2):=hbk.cell 5
   have c6:w1.cell? ⟨bx,6,none⟩=some (.slice A s.cs.length u):=hbk.cell 6
   have c7:w1.cell? ⟨bx,7,none⟩=some (.slice Ax s.xs.length cx):=hbk.cell 7
   have c8:w1.cell? ⟨bx,8,none⟩=some (.slice Ah s.hs.length ch):=hbk.cell 8
   clear hbk
   go_simp
   exact adds_val rfl
  ·clear hgr
   change Made _ (Adds _ _ _) (Sem.run _ (execOp (Act.eval (frm _ _ _ [])) _) _)
   simp only[frm]
   go_simp
   exact adds_new (T:=IsT w3.heap.size [1,0]) (hT:=IsT.bl) ⟨_,_,rfl,Sl.new _ 3 [.int .i64 1,.int .i64 0],Nat.le_refl _,fun b o e=>by cases e;exact⟨hb1.size,by simp⟩⟩ ((Below.refl _ _).alloc (Nat.le_refl _) _)
  ·have h2:vs 2=_:=hgr 2 (by decide)
   obtain⟨Ac,cc,h3,hsc,hcc,hgc⟩:=hgr 3 (by decide)
   clear hgr
   change Made _ (Adds _ _ _) (Sem.run _ (execOp (Act.eval (Act.put (Act.put (frm _ _ _ []) (some 30) (vs 3)) (some 29) (vs 2))) _) _)
   simp only[frm,h2,h3]
   have cM:=(HEN.out.below hb1).roots (chs:=[1,0]) (by have:=HXL.out;omega) ⟨hsc,hcc⟩ (by decide) (by intro x hx;simp at hx;rcases hx with rfl | rfl <;> decide)
   unfold Rts10P at cM
   go_simp
   exact adds_call (T:=WsT w3.heap.size (rts10 s.xs [1,0])) (hT:=WsT.bl) (ob:=fun _=>none) cM fun e w2 ⟨v,he,ho,hb⟩=>⟨v,he,WsT.of ho hb1.size,hb,(fun k hk=>nomatch hk)⟩
 intro vs w1 hb1 hall hap
 have h0:vs 0=_:=(hall 0 (by omega)).1
 have h1:vs 1=_:=(hall 1 (by omega)).1
 have h2:vs 2=_:=(hall 2 (by omega)).1
 obtain⟨Ac,cc,h3,hsc,hcc,hgc⟩:=(hall 3 (by omega)).1
 obtain⟨Ar,cr,h4,hsr,hcr,hgr4⟩:=(hall 4 (by omega)).1
 clear hall hap
 change wpList _ _ _ [_] (Act.put (Act.put (Act.put (Act.put (Act.put (frm _ _ _ []) (some 31) (vs 4)) (some 30) (vs 3)) (some 29) (vs 2)) (some 28) (vs 1)) (some 27) (vs 0)) _
 simp only[frm,h0,h1,h2,h3,h4]
 obtain⟨Rt,hRt⟩:∃ R,R=rts10 s.xs [1,0]:=⟨_,rfl⟩
 have hrl:Rt.length=2:=by rw[hRt];rfl
 have hru:∀ x∈Rt,U64 x:=by rw[hRt];exact rts10_u _ _
 rw[← hRt] at HE hsr hcr
 rw[← hRt]
 have HE3:=lh (HEN.out.below hb1)
 have HRG:=lh hgr4
 have hcol:=HE3.out.collect hsr hcr (by omega) hru (fun b' o e=>by
  have h1:=HRG.out b' o e
  exact⟨h1.2,fun e'=>by have:=HEN.out.lt e';omega⟩) (by have:=HE.out.2.2.2.2.2;omega)
 obtain⟨Q1,hQ1⟩:∃ Q1,Q1=ColP w1 B1 B1 g1 g2 gt bt k V1 V2 (s.m.collect s.m.yng.chk s.cs Rt):=⟨_,rfl⟩
 rw[← hQ1] at hcol
 clear hb1 hsr hcr hgr4 hRt hru hrl HEN HM HX
 go_wp2_with fail
 refine hcol.mono ?_
 rintro e w4 hcp
 rw[hQ1] at hcp
 obtain⟨v,V1',V2',k',rfl,hov,hen4,_,_⟩:=HE3.out.col hcp
 have h1:=HE.out
 obtain⟨C,hC⟩:∃ C,C=s.m.collect s.m.yng.chk s.cs Rt:=⟨_,rfl⟩
 rw[← hC] at hov hen4 h1 ⊢
 obtain⟨he,hn,ho,hy,ht,_⟩:=h1
 rw[he,hn]
 have HE4:=lh hen4
 rw[ho] at hov
 obtain⟨Av,cv,rfl,hcv⟩:=own_shape hov
 have HSV:=lh (own_sl hov)
 have HT:=lh (And.intro hy ht)
 clear hcol hQ1 hcp hov hen4 he hn ho hy ht hC HE HE3 HRG
 go_wp2_with fail
 simp only[normalTo]
 refine phase2_all 6 13 (fun i=>([[],[],[],[],[2,3],[0,1,4],[5],[6],[6],[6],[7],[8],[9]]:List (List Nat)).getD i []) (EL [Ent.val (.agg #[.pointer (some ⟨g1,0,none⟩),.pointer (some ⟨g2,0,none⟩)]),Ent.val (.pointer (some ⟨gt,0,none⟩)),Ent.val (.agg #[.int .i64 s.m.old.base,.int .i64 s.m.old.limit,.slice A1 s.m.old.ws.length u1,.int .i64 s.m.yng.base,.int .i64 s.m.yng.limit,.slice A2 s.m.yng.ws.length u2,.slice A s.cs.length u,.slice Ax s.xs.length cx,.slice Ah s.hs.length ch]),Ent.val (.slice Ac 2 cc),Ent.val (.slice Ar Rt.length cr),Ent.val (.tuple #[.slice Av 2 cv,.int .i64 2,.int .i64 0]),Ent.val (.tuple #[.slice Av 2 cv,.int .i64 2,.int .i64 0]),Ent.val (.slice Av 2 cv),Ent.val (.int .i64 2),Ent.val (.int .i64 0),Ent.val (.slice Av 2 cv),Ent.val (.int .i64 2),Ent.val (.int .i64 0)]) (by kernel_rfl) rfl (by omega) (by kernel_rfl) (by kernel_rfl) (by rfl) ?_ ?_ ?_
 ·intro i hi
  rcases (show i=0 ∨ i=1 ∨ i=2 ∨ i=3 ∨ i=4 ∨ i=5 by omega) with rfl | rfl | rfl | rfl | rfl | rfl <;> exact⟨rfl,fun _=>rfl⟩
 ·intro i hmi hi o ho vs w5 hb1 hgr
  rcases (show i=6 ∨ i=7 ∨ i=8 ∨ i=9 ∨ i=10 ∨ i=11 ∨ i=12 by omega) with rfl | rfl | rfl | rfl | rfl | rfl | rfl <;> cases ho
  ·have h5:vs 5=_:=hgr 5 (by decide)
   clear hgr
   change Made _ (Adds _ _ _) (Sem.run _ (execOp (Act.eval (Act.put (frm _ _ _ []) (some 32) (vs 5))) _) _)
   simp only[frm,h5]
   go_simp
   exact adds_val rfl
  ·have h6:vs 6=_:=hgr 6 (by decide)
   clear hgr
   change Made _ (Adds _ _ _) (Sem.run _ (execOp (Act.eval (Act.put (frm _ _ _ []) (some 26) (vs 6))) _) _)
   simp only[frm,h6]
   go_simp
   exact adds_val rfl
  ·have h6:vs 6=_:=hgr 6 (by decide)
   clear hgr
   change Made _ (Adds _ _ _) (Sem.run _ (execOp (Act.eval (Act.put (frm _ _ _ []) (some 26) (vs 6))) _) _)
   simp only[frm,h6]
   go_simp
   exact adds_val rfl
  ·have h6:vs 6=_:=hgr 6 (by decide)
   clear hgr
   change Made _ (Adds _ _ _) (Sem.run _ (execOp (Act.eval (Act.put (frm _ _ _ []) (some 26) (vs 6))) _) _)
   simp only[frm,h6]
   go_simp
   exact adds_val rfl
  ·have h7:vs 7=_:=hgr 7 (by decide)
   clear hgr
   change Made _ (Adds _ _ _) (Sem.run _ (execOp (Act.eval (Act.put (frm _ _ _ []) (some 33) (vs 7))) _) _)
   simp only[frm,h7]
   go_simp
   exact adds_val rfl
  ·have h8:vs 8=_:=hgr 8 (by decide)
   clear hgr
   change Made _ (Adds _ _ _) (Sem.run _ (execOp (Act.eval (Act.put (frm _ _ _ []) (some 34) (vs 8))) _) _)
   simp only[frm,h8]
   go_simp
   exact adds_val rfl
  ·have h9:vs 9=_:=hgr 9 (by decide)
   clear hgr
   change Made _ (Adds _ _ _) (Sem.run _ (execOp (Act.eval (Act.put (frm _ _ _ []) (some 35) (vs 9))) _) _)
   simp only[frm,h9]
   go_simp
   exact adds_val rfl
 intro vs w5 hb1 hall hap
 have h10:vs 10=_:=(hall 10 (by omega)).1
 have h11:vs 11=_:=(hall 11 (by omega)).1
 have h12:vs 12=_:=(hall 12 (by omega)).1
 clear hall hap
 change wpList _ _ _ [] (Act.put (Act.put (Act.put (Act.put (Act.put (Act.put (Act.put (Act.put (Act.put (Act.put (Act.put (Act.put (Act.put (frm _ _ _ []) (some 8) (vs 12)) (some 7) (vs 11)) (some 6) (vs 10)) (some 35) (vs 9)) (some 34) (vs 8)) (some 33) (vs 7)) (some 26) (vs 6)) (some 32) (vs 5)) (some 31) (vs 4)) (some 30) (vs 3)) (some 29) (vs 2)) (some 28) (vs 1)) (some 27) (vs 0)) _
 simp only[frm,h10,h11,h12]
 have HE5:=lh (HE4.out.below hb1)
 have m0:w5.cell? ⟨bm,0,none⟩=some (.pointer (some ⟨g1,0,none⟩)):=HE5.out.hm.cell 0
 have m1:w5.cell? ⟨bm,1,none⟩=some (.pointer (some ⟨g2,0,none⟩)):=HE5.out.hm.cell 1
 have hsv:=HSV.out.below hb1
 obtain⟨b,o,rfl,hbl,hc⟩:=hsv.2.resolve_left (by simp)
 have v0:w5.cell? ⟨b,o,none⟩=some (.int .u64 2):=hc 0 _ rfl
 have v1:w5.cell? ⟨b,o+1,none⟩=some (.int .u64 18):=hc 1 _ rfl
 have cY:=fun {w':World} (hb:Below w5.heap.size w5 w')=>Top_any (HE5.out.below hb).mr.y
 have cO:=fun {w':World} (hb:Below w5.heap.size w5 w')=>Top_any (HE5.out.below hb).mr.o
 rw[HT.out.1] at cY
 rw[HT.out.2] at cO
 clear hb1 hsv hbl hc h10 h11 h12 HE4 HSV
 go_simp
 change Exit.then _ _ _ _ _
 go_wp2_with fail
 refine(cY (Below.refl _ _)).mono ?_
 rintro e w6 ⟨rfl,hb6⟩
 have HE6:=lh (HE5.out.below hb6)
 have HB6:=lh hb6
 have m0:w6.cell? ⟨bm,0,none⟩=some (.pointer (some ⟨g1,0,none⟩)):=HE6.out.hm.cell 0
 have m1:w6.cell? ⟨bm,1,none⟩=some (.pointer (some ⟨g2,0,none⟩)):=HE6.out.hm.cell 1
 clear hb6 cY v0 v1
 go_wp2_with fail
 refine(cO HB6.out).mono ?_
 rintro e w7 ⟨rfl,hb7⟩
 have HE7:=lh (HE6.out.below hb7)
 clear hb7 cO m0 m1
 go_wp2_with fail
 go_ret
 exact⟨rfl,HB0.out.trans (HE7.out.bl.mono HB0.out.size)⟩
end
section
open Go.RowKit Go.Maps Go.Sort Go.Shelf
theorem sortsA (m:Nat):AnyZI.SortsIn Tryz.prog Tryz.sortedA_ren Fence.wide m :=
 ⟨fun blk off cap ss W hH hblk hsz=>callsIn_wide.2 (AnyM.slices_Sort_int Tryz.sortA blk off cap ss W hH hblk hsz),
  fun p cap W=>callsIn_wide.2 (AnyM.slices_Sort_int_none Tryz.sortA p cap W)⟩
def KeysP (w:World) (k:TypeId) (D0:DataW Unit) (e:Ending) (w':World):Prop:=∃ (v:Value) (ss:List Int),e=.returned v∧ss.Perm (intKeys D0) ∧
 w'.ownsRow w.heap.size k 1 v ss.length ((ss.mergeSort (fun x y=>decide (x≤y))).map encZ)∧(v=.slice none 0 0↔ss=[])∧Below w.heap.size w w'
set_option maxHeartbeats 1000000 in
theorem sorted_keys (b nn:Nat) (D0:DataW Unit) (R:Value→Option (DataW Unit × List MemPlace)) (w:World) (hown:w.ownsMap Tryz.prog 3 R b nn D0) (hmax:Maps.size D0≤maxLen) (hbytes:Maps.size D0*8≤140737488355328) :
  Calls Tryz.prog 79 #[.map (some b)] w (KeysP w 3 D0):=by
 refine(callsIn_wide (n:=6)).1 ?_
 have hbl:=hown.lt
 have hseq:SeqGives Fence.wide 2 Tryz.prog 125 #[.pointer (some ⟨w.heap.size,0,none⟩)] encZ (fun ss=>ss.Perm (intKeys D0)) (Maps.size D0) (w.alloc (.cells #[.map (some b)] 127)) :=
  AnyZI.keys_gives (ρ:=Tryz.keysA_ren) { Tryz.keysA with } Fence.wide _ trivial rfl (by omega) w.heap.size b nn D0 _ (by simp) (by simp) (by
   obtain⟨es,clock,hb,Ft,hs,hD⟩:=hown
   exact⟨es,clock,(Below.heap_alloc _ _ b hbl).trans hb,Ft,hs,hD⟩)
 have cK:∀ mb W,CallsIn Fence.wide 5 Tryz.prog 110 #[.map mb] W fun e w'=>e=.returned (.func (.func 125) #[] #[.pointer (some ⟨W.heap.size,0,none⟩)])∧w'=W.alloc (.cells #[.map mb] 127):=fun mb W=>AnyZI.keys_in Tryz.keysA Fence.wide 5 trivial rfl mb W
 have cS:=AnyZI.sorted_in Tryz.sortedA Fence.wide 5 trivial trivial trivial trivial rfl (by omega) (sortsA _) (enters_of Tryz.func124 (by kernel_rfl) rfl) 125 #[.pointer (some ⟨w.heap.size,0,none⟩)] trivial (enters_of Tryz.func125 (by kernel_rfl) rfl) _ _ hmax hbytes _ hseq
 change CallsIn _ _ Tryz.prog 109 _ _ _ at cS
 have hfK:Fence.wide.fn 110:=trivial
 have hfS:Fence.wide.fn 109:=trivial
 refine callsIn_of_wp Tryz.func79 rfl trivial ?_ rfl
 simp only[Tryz.ntmps79,List.size_toArray,List.length_cons,List.length_nil,Nat.reduceAdd,Nat.reduceSub,Array.replicate_succ,Array.replicate_zero,List.push_toArray,List.append_toArray,List.nil_append,List.cons_append]
 gi_wp2_with (first
  | (gi_at_call 110;refine(cK _ _).mono ?_;rintro e w' ⟨rfl,rfl⟩)
  | (gi_at_call 109;refine cS.mono ?_;rintro e w' ⟨v,ss,rfl,hS,hrow,hnil,hb⟩))
 go_ret
 exact⟨v,ss,rfl,hS,ownsRow_base_a hrow (by simp),hnil,((Below.refl _ w).alloc (Nat.le_refl _) _).trans (hb.mono (by simp))⟩
theorem MapT.keys {P:Program} {k e:TypeId} {w:World} {b n:Nat} {cs:List Int} (h:MapT P k e w b n (fun x=>cs.contains x)) (hk:P.underlying k=some (.int .i64)) (hs:cs.Pairwise (· < ·)) (hw:∀ x∈cs,(Lit.int .i64 x).wf=true) :
  ∃ D:DataW Unit,w.ownsMap P k (plainElem P e) b n D∧cs.Perm (intKeys D)∧Maps.size D=cs.length:=by
 obtain⟨D,hown,hD⟩:=h
 have hown2:=hown
 obtain⟨es,rfl,hpw,_⟩:=hown.entries (int_keyed hk)
 obtain⟨es',hD',hko⟩:=hown2.keysOf
 obtain rfl:es=es':=by simpa using hD'
 have hkeys:∀ p∈es,∃ x,p.1=.int .i64 x:=fun p hp=>by obtain⟨v,hv⟩:=hko p hp;obtain⟨x,_,hx,_⟩:=Maps.keyOf_i64 hk hv;exact⟨x,hx⟩
 have hperm:cs.Perm (intKeys (.map es)):=perm_intKeys hpw hkeys (hs.imp fun h e=>by subst e;exact absurd h (Int.lt_irrefl _)) fun x=>by
  by_cases hx:(Lit.int .i64 x).wf=true
  ·rw[(hD x hx).1];simp
  ·constructor
   ·intro hm;exact absurd (hw x hm) hx
   ·intro hm
    rw[Maps.has_eq,List.any_eq_true] at hm
    obtain⟨p,hp,hsk⟩:=hm
    obtain⟨v,hv⟩:=hko p hp
    obtain⟨y,_,hy,hwy⟩:=Maps.keyOf_i64 hk hv
    rw[hy] at hsk
    have:y=x:=by simpa [Lit.sameKey] using hsk
    rw[this] at hwy
    exact absurd hwy hx
 refine⟨_,hown,hperm,?_⟩
 rw[hperm.length_eq]
 simp[Maps.size,intKeys]
theorem mergeSort_self {cs ss:List Int} (hs:cs.Pairwise (· < ·)) (h:ss.Perm cs):ss.mergeSort (fun x y=>decide (x≤y))=cs:=by
 rw[show ss.mergeSort (fun x y=>decide (x≤y))=cs.mergeSort (fun x y=>decide (x≤y)) from mergeSort_of_perm_i h]
 exact List.mergeSort_of_pairwise (hs.imp fun h=>by simp;omega)
def CardsP (w:World) (cs:List Int) (e:Ending) (w':World):Prop:=∃ v,e=.returned v∧w'.ownsRow w.heap.size 3 1 v cs.length (ints cs)∧Below w.heap.size w w'
theorem Cards_any {w:World} {B g b n:Nat} {cs:List Int} (h:CR w B g b n cs) (hs:cs.Pairwise (· < ·)) (hw:∀ x∈cs,(Lit.int .i64 x).wf=true) (hl:cs.length≤1000000):Calls Tryz.prog 35 #[.pointer (some ⟨g,0,none⟩)] w (CardsP w cs):=by
 obtain⟨D,hown,hperm,hsz⟩:=h.mp.keys Tryz.underlying3 hs hw
 have cS:=sorted_keys b n D _ w hown (by unfold maxLen;omega) (by omega)
 have c0:w.cell? ⟨g,0,none⟩=some (.map (some b)):=h.hd.cell 0
 have HS:=lh hs
 have HP:=lh hperm
 clear h hown hs hw hperm hsz
 go_enter Tryz.func35,Tryz.ntmps35
 go_wp2_with fail
 refine cS.mono ?_
 rintro e w1 ⟨v,ss,rfl,hss,hrow,hnil,hb⟩
 have HR:=lh hrow
 have HSS:=lh hss
 have HB:=lh hb
 clear hss hrow hnil hb cS
 go_wp2_with fail
 go_ret
 have hp:=HSS.out.trans HP.out.symm
 have hr:=HR.out
 rw[mergeSort_self HS.out hp,hp.length_eq] at hr
 exact⟨v,rfl,hr,HB.out⟩
end
end Go.Proofs.YtaijmgkjbbiboaaGreat
