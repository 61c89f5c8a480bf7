/- Parts of the proof: RefsRow. -/
import Derived.Test.YtmbnlccafcfbeaaGreatDoorCards
import Derived.Test.YtmbnlccafcfbeaaGreatDoorPcA
import Derived.Test.YtmbnlccafcfbeaaGreatDoorTie
import Derived.Test.YtmbnlccafcfbeaaGreatDoorPc28
import Derived.Test.YtmbnlccafcfbeaaGreatDoorPc34
set_option linter.unusedVariables false
set_option linter.unusedSimpArgs false
set_option linter.unusedSectionVars false
set_option maxRecDepth 100000
namespace Go.Proofs.YtmbnlccafcfbeaaGreatDoor
section
open Go.ChangeShapes Go.WideShapes Go.ChangeAt Go.RowKit
set_option maxRecDepth 100000 in
theorem rRef_lifted (os:Os) (started:os.Started) (H:Type) (enc:TypeId × Value→H) :
  ReturnsInHanded {} Tryz.checked os 7 .any (fun w args=>(Rows.refcodecRefsSpec.pre enc Tryz.prog Tryz.f7 [] false w args∧laidMetH Tryz.prog Rows.refcodecRefsRow.laid w)∧sizedMet enc Tryz.prog Tryz.f7 (OpenSpec.ofChange Rows.refcodecRefsSpec) false w args)
   (Rows.refcodecRefsSpec.post enc Tryz.prog Tryz.f7 false true false false):=by
 refine returnsInHanded_of_change_and (C:=Tryz.checked) (X:=fun w _=>laidMetH Tryz.prog Rows.refcodecRefsRow.laid w) (fun _ _ _ hh h=>h.of_heap hh) own started (by kernel_rfl) Tryz.func7
  (ChangeSpec.witness_shaped (enc:=enc) (C:=Tryz.checked) (os:=os) (X:=fun w _=>laidMetH Tryz.prog Rows.refcodecRefsRow.laid w) false (World.doorLaid Tryz.prog 400 os) #[.agg #[.int .i64 0,.int .i64 0,.int .i64 0,.int .u64 0,.int .i64 0,.int .i64 0,.int .i64 0,.bool false],.agg #[.int .i64 0,.int .i64 0,.int .i64 0,.int .u64 0,.int .i64 0,.int .i64 0,.int .i64 0,.bool false]] 8 rfl (World.shaped_of_RefB (by kernel_rfl) (by kernel_rfl)) (by kernel_rfl) (by kernel_rfl) (by kernel_rfl) (door_met os _)) ?_
 intro W base args ds gs before hval0 hW _ hwt hL _
 have hval:∀ (j:Nat) t v,Tryz.f7.params[j]?=some t→args[j]?=some v→Value.okWide Tryz.prog W .any base t v:=hval0
 have hW':=hW
 obtain⟨p,q,hA0,hV,rfl,hfz,hnd⟩:=hW
 have hA:DataW.TrodAll enc Tryz.prog W 0 (fun _=>true) true Tryz.f7.params.toList args.toList ds p:=hA0
 rw[Tryz.params7] at hA hval
 obtain⟨v0,v1,d0,d1,p0,p1,rfl,rfl,rfl,h0,h1⟩:=trodAll_two hA
 obtain⟨rfl,rfl⟩:=trodVars_none hV
 have k0:=h0
 have lt0:∀ x∈p0,x.block < W.heap.size:=by obtain⟨m,hm⟩:=k0;exact DataW.trod_lt m _ _ _ hm
 have k1:=h1
 have lt1:∀ x∈p1,x.block < W.heap.size:=by obtain⟨m,hm⟩:=k1;exact DataW.trod_lt m _ _ _ hm
 have g0:Wgt Tryz.prog 26 d0:=wgt_of hwt (j:=0) (by rw[Tryz.params7];rfl) rfl
 have g1:Wgt Tryz.prog 26 d1:=wgt_of hwt (j:=1) (by rw[Tryz.params7];rfl) rfl
 obtain⟨a,rfl,ha⟩:=open_refV (hval 0 26 v0 rfl rfl) h0 g0
 obtain⟨b,rfl,hb⟩:=open_refV (hval 1 26 v1 rfl rfl) h1 g1
 clear hA0 hval0
 have fin:Calls Tryz.prog 7 #[.agg (rfC a).toArray,.agg (rfC b).toArray] W fun e w'=>e=.returned (.bool true)∧Below W.heap.size W w':=by
  exact LRefs_any ha hb (tb_of_laid hL)
 refine fin.mono fun e W' ⟨he,bel⟩=>?_
 subst he
 exact⟨_,rfl,_,_,_,[],_,[],hW',trodAll_mk1 (shut_bool Tryz.underlying4 _),(trodAll_cons_mk (Below.trod laidOut (by kernel_rfl) (of_decide_eq_true (by kernel_rfl)) k0 bel lt0) (trodAll_cons_mk (Below.trod laidOut (by kernel_rfl) (of_decide_eq_true (by kernel_rfl)) k1 bel lt1) trodAll_mk0)),rfl,bel.frame _,fun h=>by cases h⟩
theorem rRef_row:Rows.RefcodecRefsSaid :=
 OpenClaim.holds_of_wide 7 Tryz.f7 rfl rfl rfl rfl rfl rfl rfl ⟨rfl,rfl,rfl,rfl,rfl⟩ rfl rfl rfl rfl rfl (by kernel_rfl) Tryz.func7 (by kernel_rfl)
  (of_decide_eq_true (by kernel_rfl)) (by unfold Func.isWrapper;first | (rw[if_pos (by decide +kernel)];kernel_rfl) | (rw[if_neg (by decide +kernel)];exact⟨rfl,rfl⟩))
  (fun os started H enc _=>rRef_lifted os started H enc)
theorem rRef_holds:Rows.RefcodecRefsCardSaid :=
 Claim7.holds_tied_plain_at .later [] [.data, .data, .data] true (true, "51c844e15a9946873288dcd10d8712551511f10c904560ea5d64e154bc7f4c1e") false
  rRef_row (fun _ h=>by cases h) (by kernel_rfl) (fun _ h=>by cases h) refcodecRefs_row_tie rfl ⟨rfl,rfl⟩ (by kernel_rfl) rfl
  (fun f fn hf hfn=>by
   obtain rfl : f = 7 := Option.some.inj ((show Tryz.prog.funcNamed "refmesh/refmeshlaw27.RefcodecRefs" = some 7 by kernel_rfl).symm.trans hf) |>.symm
   obtain rfl:fn=Tryz.f7:=(Option.some.inj (Tryz.func7.symm.trans hfn)).symm
   exact⟨by kernel_rfl,fun j t ht=>by
    rw[Tryz.params7] at ht
    have hm:t∈[26,26]:=by simpa using Array.mem_of_getElem? ht
    have hall:([26,26].all fun u=>!Tryz.prog.wantsStandIn u)=true:=by kernel_rfl
    exact(show Tryz.prog.wantsStandIn t=false by simpa using List.all_eq_true.1 hall t hm)⟩)
  (by kernel_rfl)
#print axioms rRef_holds
end
end Go.Proofs.YtmbnlccafcfbeaaGreatDoor
