/- Parts of the proof: OpenB. -/
import Derived.Test.YtmbnlccafcfbeaaDoorPdA
import Derived.Test.YtmbnlccafcfbeaaDoorPd11
import Derived.Test.YtmbnlccafcfbeaaDoorPd3
set_option linter.unusedVariables false
set_option linter.unusedSimpArgs false
set_option linter.unusedSectionVars false
set_option maxRecDepth 100000
namespace Go.Proofs.YtmbnlccafcfbeaaDoor
section
open Go.ChangeShapes Go.WideShapes Go.ChangeAt Go.RowKit Go.Deep
theorem cellsU8:Tryd.prog.cellsOf 5=1:=by kernel_rfl
def U8R (w:World) (x:Int) (r:List Value):Prop:=r=[.int .u8 x]∧0≤x∧x≤255
section
variable {H:Type} {enc:TypeId × Value→H} {w:World} {base:Nat} {spare:Nat→Bool} {held:Bool}
theorem open_u8R (fuel:Nat) (cs:List Value) (x:DataW H × List MemPlace) (_:cs.length=1) (h:DataW.trod enc Tryd.prog w base spare held fuel 5 cs=some x) (_:Wgt Tryd.prog 5 x.1):∃ y,U8R w y cs:=by
 obtain⟨k,e0,_,w0⟩:=DataW.trod_int Tryd.underlying5 h
 simp only[Lit.wf,Bool.and_eq_true,decide_eq_true_eq] at w0
 have e1:IntKind.u8.min=0:=rfl
 have e2:IntKind.u8.max=255:=rfl
 rw[e1,e2] at w0
 exact⟨k,e0,w0.1,w0.2⟩
theorem slice_spot {r:_root_.Go.Reach} {b0:Nat} {a:Addr} {n c:Nat} (hv:Value.okWide Tryd.prog w r b0 29 (.slice (some a) n c)):a.spot=none:=by
 simp only[Value.okWide,Tryd.underlying29,Cell.okWide,Cell.ok] at hv
 have h:=hv.2.2
 simp only[World.has] at h
 exact h.2.1
theorem open_bytesV {b0:Nat} {r:_root_.Go.Reach} {v:Value} {d:DataW H} {p:List MemPlace} (hv:Value.okWide Tryd.prog w r b0 29 v) (h:DataW.Trod enc Tryd.prog w base spare held 29 v d p) (hw:Wgt Tryd.prog 29 d) :
  ∃ A c l,v=.slice A l.length c∧Sl w 1 A l.length (byts l)∧l.length≤c∧l.length≤140737488351232∧B8 l∧∀ x,A=some x→x.spot=none:=by
 obtain⟨X,l,c,rfl⟩:=Go.WideShapes.okWide_slice Tryd.underlying29 hv
 obtain⟨fuel,hf⟩:=h
 obtain⟨A,n,c',e,h1,h2,xs,hxs⟩:=open_slR U8R Tryd.underlying29 cellsU8 (show Tryd.prog.bytesOf 5=1 by kernel_rfl) (by omega) (by omega) open_u8R (show DataW.trod enc Tryd.prog w base spare held fuel 29 [.slice X l c]=some (d,p) from hf) hw
 have hall:=hxs.all (P:=fun x=>0≤x∧x≤255) fun x r hr=>hr.2
 obtain⟨g1,g2⟩:=hxs
 subst g1
 refine⟨A,c',xs,e,⟨by simp[byts],?_⟩,h1,h2,hall,fun x hA=>?_⟩
 ·rcases g2 with g2 | ⟨b,o,g3,g4,g5⟩
  ·exact .inl g2
  ·refine .inr ⟨b,o,g3,g4,fun j v hv=>?_⟩
   obtain⟨x,hx,rfl⟩:∃ x,xs[j]?=some x∧.int .u8 x=v:=by simpa [byts] using hv
   obtain⟨r,_,⟨hr,_⟩,hc⟩:=g5 j x hx
   have:=hc 0 (.int .u8 x) (by rw[hr];rfl)
   simpa using this
 ·rw[e,hA] at hv
  exact slice_spot hv
end
end
end Go.Proofs.YtmbnlccafcfbeaaDoor
