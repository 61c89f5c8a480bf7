/- Parts of the proof: EncRow. -/
import Derived.Test.YtmbnlccafcfbeaaDoorCards
import Derived.Test.YtmbnlccafcfbeaaDoorPeA
import Derived.Test.YtmbnlccafcfbeaaDoorTie
import Derived.Test.YtmbnlccafcfbeaaDoorPe0
import Derived.Test.YtmbnlccafcfbeaaDoorPe12
import Derived.Test.YtmbnlccafcfbeaaDoorPe20
set_option linter.unusedVariables false
set_option linter.unusedSimpArgs false
set_option linter.unusedSectionVars false
set_option maxRecDepth 100000
namespace Go.Proofs.YtmbnlccafcfbeaaDoor
section
open Go.ChangeShapes Go.WideShapes Go.ChangeAt Go.RowKit
set_option maxRecDepth 100000 in
theorem lEnc_lifted (os:Os) (started:os.Started) (H:Type) (enc:TypeId × Value→H) :
  ReturnsInHanded {} Tryd.checked os 5 .any (fun w args=>(Rows.bytecodeEncodesSpec.pre enc Tryd.prog Tryd.f5 [] false w args∧laidMetH Tryd.prog Rows.bytecodeEncodesRow.laid w)∧sizedMet enc Tryd.prog Tryd.f5 (OpenSpec.ofChange Rows.bytecodeEncodesSpec) false w args)
   (Rows.bytecodeEncodesSpec.post enc Tryd.prog Tryd.f5 false true false false):=by
 refine returnsInHanded_of_change_and (C:=Tryd.checked) (X:=fun w _=>laidMetH Tryd.prog Rows.bytecodeEncodesRow.laid w) (fun _ _ _ hh h=>h.of_heap hh) own started (by kernel_rfl) Tryd.func5
  (ChangeSpec.witness_shaped (enc:=enc) (C:=Tryd.checked) (os:=os) (X:=fun w _=>laidMetH Tryd.prog Rows.bytecodeEncodesRow.laid w) false (World.doorLaid Tryd.prog 400 os) #[.agg #[.slice none 0 0]] 8 rfl (World.shaped_of_RefB (by kernel_rfl) (by kernel_rfl)) (by kernel_rfl) (by kernel_rfl) (by kernel_rfl) (door_met os _)) ?_
 intro W base args ds gs before hval0 hW _ hwt hL _
 have hval:∀ (j:Nat) t v,Tryd.f5.params[j]?=some t→args[j]?=some v→Value.okWide Tryd.prog W .any base t v:=hval0
 have hW':=hW
 obtain⟨p,q,hA0,hV,rfl,hfz,hnd⟩:=hW
 have hA:DataW.TrodAll enc Tryd.prog W 0 (fun _=>true) true Tryd.f5.params.toList args.toList ds p:=hA0
 rw[Tryd.params5] at hA hval
 obtain⟨v0,d0,rfl,rfl,h0⟩:=trodAll_one hA
 obtain⟨rfl,rfl⟩:=trodVars_none hV
 have k0:=h0
 have lt0:∀ x∈p,x.block < W.heap.size:=by obtain⟨m,hm⟩:=k0;exact DataW.trod_lt m _ _ _ hm
 have g0:Wgt Tryd.prog 24 d0:=wgt_of hwt (j:=0) (by rw[Tryd.params5];rfl) rfl
 obtain⟨A,n,c,cs,rfl,hC⟩:=open_codeV (hval 0 24 v0 rfl rfl) h0 g0
 clear hA0 hval0
 have fin:Calls Tryd.prog 5 #[.agg #[.slice A n c]] W fun e w'=>e=.returned (.bool true)∧Below W.heap.size W w':=by
  exact LEnc_any hC (tabs_of_laid hL)
 refine fin.mono fun e W' ⟨he,bel⟩=>?_
 subst he
 exact⟨_,rfl,_,_,_,[],_,[],hW',trodAll_mk1 (shut_bool Tryd.underlying4 _),(trodAll_cons_mk (Below.trod laidOut (by kernel_rfl) (of_decide_eq_true (by kernel_rfl)) k0 bel lt0) trodAll_mk0),rfl,bel.frame _,fun h=>by cases h⟩
theorem lEnc_row:Rows.BytecodeEncodesSaid :=
 OpenClaim.holds_of_wide 5 Tryd.f5 rfl rfl rfl rfl rfl rfl rfl ⟨rfl,rfl,rfl,rfl,rfl⟩ rfl rfl rfl rfl rfl (by kernel_rfl) Tryd.func5 (by kernel_rfl)
  (of_decide_eq_true (by kernel_rfl)) (by unfold Func.isWrapper;first | (rw[if_pos (by decide +kernel)];kernel_rfl) | (rw[if_neg (by decide +kernel)];exact⟨rfl,rfl⟩))
  (fun os started H enc _=>lEnc_lifted os started H enc)
theorem lEnc_holds:Rows.BytecodeEncodesCardSaid :=
 Claim7.holds_tied_plain_at .later [] [.data, .data, .data, .data] true (true, "066bfe6ca66d339e5de088c844cb17f367602f86f82be5c0d5f5da60a077a7ce") false
  lEnc_row (fun _ h=>by cases h) (by kernel_rfl) (fun _ h=>by cases h) bytecodeEncodes_row_tie rfl ⟨rfl,rfl⟩ (by kernel_rfl) rfl
  (fun f fn hf hfn=>by
   obtain rfl : f = 5 := Option.some.inj ((show Tryd.prog.funcNamed "refmesh/refmeshlaw41.BytecodeEncodes" = some 5 by kernel_rfl).symm.trans hf) |>.symm
   obtain rfl:fn=Tryd.f5:=(Option.some.inj (Tryd.func5.symm.trans hfn)).symm
   exact⟨by kernel_rfl,fun j t ht=>by
    rw[Tryd.params5] at ht
    have hm:t∈[24]:=by simpa using Array.mem_of_getElem? ht
    have hall:([24].all fun u=>!Tryd.prog.wantsStandIn u)=true:=by kernel_rfl
    exact(show Tryd.prog.wantsStandIn t=false by simpa using List.all_eq_true.1 hall t hm)⟩)
  (by kernel_rfl)
#print axioms lEnc_holds
end
end Go.Proofs.YtmbnlccafcfbeaaDoor
