/- Parts of the proof: EqRow. -/
import Derived.Test.YtmbnlccafcfbeaaDoorCards
import Derived.Test.YtmbnlccafcfbeaaDoorPqA
import Derived.Test.YtmbnlccafcfbeaaDoorTie
import Derived.Test.YtmbnlccafcfbeaaDoorPq0
import Derived.Test.YtmbnlccafcfbeaaDoorPq11
import Derived.Test.YtmbnlccafcfbeaaDoorPq7
set_option linter.unusedVariables false
set_option linter.unusedSimpArgs false
set_option linter.unusedSectionVars false
set_option maxRecDepth 100000
namespace Go.Proofs.YtmbnlccafcfbeaaDoor
section
open Go.ChangeShapes Go.WideShapes Go.ChangeAt Go.RowKit
set_option maxRecDepth 100000 in
theorem lEq_lifted (os:Os) (started:os.Started) (H:Type) (enc:TypeId × Value→H) :
  ReturnsInHanded {} Tryd.checked os 3 .any (fun w args=>(Rows.bytecodeEqualSpec.pre enc Tryd.prog Tryd.f3 [] false w args∧laidMetH Tryd.prog Rows.bytecodeEqualRow.laid w)∧sizedMet enc Tryd.prog Tryd.f3 (OpenSpec.ofChange Rows.bytecodeEqualSpec) false w args)
   (Rows.bytecodeEqualSpec.post enc Tryd.prog Tryd.f3 false true false false):=by
 refine returnsInHanded_of_change_and (C:=Tryd.checked) (X:=fun w _=>laidMetH Tryd.prog Rows.bytecodeEqualRow.laid w) (fun _ _ _ hh h=>h.of_heap hh) own started (by kernel_rfl) Tryd.func3
  (ChangeSpec.witness_shaped (enc:=enc) (C:=Tryd.checked) (os:=os) (X:=fun w _=>laidMetH Tryd.prog Rows.bytecodeEqualRow.laid w) false (World.doorLaid Tryd.prog 400 os) #[.agg #[.slice none 0 0],.agg #[.slice none 0 0]] 8 rfl (World.shaped_of_RefB (by kernel_rfl) (by kernel_rfl)) (by kernel_rfl) (by kernel_rfl) (by kernel_rfl) (door_met os _)) ?_
 intro W base args ds gs before hval0 hW _ hwt hL _
 have hval:∀ (j:Nat) t v,Tryd.f3.params[j]?=some t→args[j]?=some v→Value.okWide Tryd.prog W .any base t v:=hval0
 have hW':=hW
 obtain⟨p,q,hA0,hV,rfl,hfz,hnd⟩:=hW
 have hA:DataW.TrodAll enc Tryd.prog W 0 (fun _=>true) true Tryd.f3.params.toList args.toList ds p:=hA0
 rw[Tryd.params3] at hA hval
 obtain⟨v0,v1,d0,d1,p0,p1,rfl,rfl,rfl,h0,h1⟩:=trodAll_two hA
 obtain⟨rfl,rfl⟩:=trodVars_none hV
 have k0:=h0
 have lt0:∀ x∈p0,x.block < W.heap.size:=by obtain⟨m,hm⟩:=k0;exact DataW.trod_lt m _ _ _ hm
 have k1:=h1
 have lt1:∀ x∈p1,x.block < W.heap.size:=by obtain⟨m,hm⟩:=k1;exact DataW.trod_lt m _ _ _ hm
 have g0:Wgt Tryd.prog 24 d0:=wgt_of hwt (j:=0) (by rw[Tryd.params3];rfl) rfl
 have g1:Wgt Tryd.prog 24 d1:=wgt_of hwt (j:=1) (by rw[Tryd.params3];rfl) rfl
 obtain⟨A,n,c,cs,rfl,hC⟩:=open_codeV (hval 0 24 v0 rfl rfl) h0 g0
 obtain⟨B,m,d,ds,rfl,hD⟩:=open_codeV (hval 1 24 v1 rfl rfl) h1 g1
 clear hA0 hval0
 have fin:Calls Tryd.prog 3 #[.agg #[.slice A n c],.agg #[.slice B m d]] W fun e w'=>e=.returned (.bool true)∧Below W.heap.size W w':=by
  exact LEq_any hC hD (tabs_of_laid hL)
 refine fin.mono fun e W' ⟨he,bel⟩=>?_
 subst he
 exact⟨_,rfl,_,_,_,[],_,[],hW',trodAll_mk1 (shut_bool Tryd.underlying4 _),(trodAll_cons_mk (Below.trod laidOut (by kernel_rfl) (of_decide_eq_true (by kernel_rfl)) k0 bel lt0) (trodAll_cons_mk (Below.trod laidOut (by kernel_rfl) (of_decide_eq_true (by kernel_rfl)) k1 bel lt1) trodAll_mk0)),rfl,bel.frame _,fun h=>by cases h⟩
theorem lEq_row:Rows.BytecodeEqualSaid :=
 OpenClaim.holds_of_wide 3 Tryd.f3 rfl rfl rfl rfl rfl rfl rfl ⟨rfl,rfl,rfl,rfl,rfl⟩ rfl rfl rfl rfl rfl (by kernel_rfl) Tryd.func3 (by kernel_rfl)
  (of_decide_eq_true (by kernel_rfl)) (by unfold Func.isWrapper;first | (rw[if_pos (by decide +kernel)];kernel_rfl) | (rw[if_neg (by decide +kernel)];exact⟨rfl,rfl⟩))
  (fun os started H enc _=>lEq_lifted os started H enc)
theorem lEq_holds:Rows.BytecodeEqualCardSaid :=
 Claim7.holds_tied_plain_at .later [] [.data, .data, .data, .data] true (true, "066bfe6ca66d339e5de088c844cb17f367602f86f82be5c0d5f5da60a077a7ce") false
  lEq_row (fun _ h=>by cases h) (by kernel_rfl) (fun _ h=>by cases h) bytecodeEqual_row_tie rfl ⟨rfl,rfl⟩ (by kernel_rfl) rfl
  (fun f fn hf hfn=>by
   obtain rfl : f = 3 := Option.some.inj ((show Tryd.prog.funcNamed "refmesh/refmeshlaw41.BytecodeEqual" = some 3 by kernel_rfl).symm.trans hf) |>.symm
   obtain rfl:fn=Tryd.f3:=(Option.some.inj (Tryd.func3.symm.trans hfn)).symm
   exact⟨by kernel_rfl,fun j t ht=>by
    rw[Tryd.params3] at ht
    have hm:t∈[24,24]:=by simpa using Array.mem_of_getElem? ht
    have hall:([24,24].all fun u=>!Tryd.prog.wantsStandIn u)=true:=by kernel_rfl
    exact(show Tryd.prog.wantsStandIn t=false by simpa using List.all_eq_true.1 hall t hm)⟩)
  (by kernel_rfl)
#print axioms lEq_holds
end
end Go.Proofs.YtmbnlccafcfbeaaDoor
