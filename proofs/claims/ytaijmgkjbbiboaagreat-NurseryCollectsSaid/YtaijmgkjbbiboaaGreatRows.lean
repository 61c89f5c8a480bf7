/-
  No cell of these rows narrows 'for every input' (looked for: loops, veiled, ifaces, maps, wideKeys, modest, calm, conditions, laid).
  DERIVED. THE GIVEN ROWS OF THIS SEAT. 6 by the template 'for every input the law returns true; each argument reads behind the call as it read before'; 0 by the template 'total and deterministic' (their statements: YtaijmgkjbbiboaaGreatTotals.lean).
  GIVEN WITH THE SEED: the statements are not yours to turn. If you find one false, say at which input.
  Laid BY PROGRAM, IN A SANDBOX (cutbox-rows.mjs): the forced cells as the released guide's own fill.sh prints them over the translation f3841c18d940a650… (all of the seat's roots in one cut). By AI agents, Wed Nov 11 2026. No macro, syntax, notation, axiom, sorry.
-/
import Derived.Test.YtaijmgkjbbiboaaGreatChecked
import GoSem.Claim
import GoSem.ClaimJoined
import GoSem.ClaimMapViews
import Derived.JoinedTies
import Derived.KernelRfl
namespace Go.Proofs.YtaijmgkjbbiboaaGreat
/- THE CELL 'sum', in the pinned program and in every row, IS THE sha256 OF THE DUMP (.gsa) THAT YtaijmgkjbbiboaaGreatProg.lean LOADS. Nothing in Lean hashes anything: it is a label: what it is worth is what the hold of that sum in a sandbox is worth. -/
noncomputable def Tryz.pinned : Pinned := { name := "ytaijmgkjbbiboaagreat", sum := "f3841c18d940a6500ba2166efa37d99c9e44deaf5b8a545eea772ccacdb5c4a5", checked := Tryz.checked }
namespace Rows
def none {H : Type} : Left H := { results := [], args := [] }

/-- 'refmeshlaw10.NurseryGraph': WHATEVER THE INPUT: true; the input reads as it did. -/
def nurseryGraphSpec : ChangeSpec := { name := "nurseryGraph", fn := fun _ => fun
  | [d1, d2, d3] => { results := [.lit (.bool true)], args := [d1, d2, d3] }
  | _ => none }
def nurseryGraphRow : OpenClaim := { program := "ytaijmgkjbbiboaagreat", sum := "f3841c18d940a6500ba2166efa37d99c9e44deaf5b8a545eea772ccacdb5c4a5", func := "refmesh/refmeshlaw10.NurseryGraph", spec := "nurseryGraph", unfollowed := true, recurses := true, apart := false }
def NurseryGraphSaid : Prop := nurseryGraphRow.holds Tryz.pinned (OpenSpec.ofChange nurseryGraphSpec)

/-- ITS FALSE NEIGHBOUR: 'it returns false'. Refute it at one input. -/
def nurseryGraphWrong : ChangeSpec := { name := "nurseryGraph", fn := fun _ => fun
  | [d1, d2, d3] => { results := [.lit (.bool false)], args := [d1, d2, d3] }
  | _ => none }
def NurseryGraphWrongFalsely : Prop := nurseryGraphRow.holds Tryz.pinned (OpenSpec.ofChange nurseryGraphWrong)

/-- 'refmeshlaw10.NurseryKeeps': WHATEVER THE INPUT: true; the input reads as it did. -/
def nurseryKeepsSpec : ChangeSpec := { name := "nurseryKeeps", fn := fun _ => fun
  | [d1, d2, d3] => { results := [.lit (.bool true)], args := [d1, d2, d3] }
  | _ => none }
def nurseryKeepsRow : OpenClaim := { program := "ytaijmgkjbbiboaagreat", sum := "f3841c18d940a6500ba2166efa37d99c9e44deaf5b8a545eea772ccacdb5c4a5", func := "refmesh/refmeshlaw10.NurseryKeeps", spec := "nurseryKeeps", unfollowed := true, recurses := true, apart := false }
def NurseryKeepsSaid : Prop := nurseryKeepsRow.holds Tryz.pinned (OpenSpec.ofChange nurseryKeepsSpec)

/-- ITS FALSE NEIGHBOUR: 'it returns false'. Refute it at one input. -/
def nurseryKeepsWrong : ChangeSpec := { name := "nurseryKeeps", fn := fun _ => fun
  | [d1, d2, d3] => { results := [.lit (.bool false)], args := [d1, d2, d3] }
  | _ => none }
def NurseryKeepsWrongFalsely : Prop := nurseryKeepsRow.holds Tryz.pinned (OpenSpec.ofChange nurseryKeepsWrong)

/-- 'refmeshlaw10.NurseryCollects': WHATEVER THE INPUT: true; the input reads as it did. -/
def nurseryCollectsSpec : ChangeSpec := { name := "nurseryCollects", fn := fun _ => fun
  | [d1, d2, d3] => { results := [.lit (.bool true)], args := [d1, d2, d3] }
  | _ => none }
def nurseryCollectsRow : OpenClaim := { program := "ytaijmgkjbbiboaagreat", sum := "f3841c18d940a6500ba2166efa37d99c9e44deaf5b8a545eea772ccacdb5c4a5", func := "refmesh/refmeshlaw10.NurseryCollects", spec := "nurseryCollects", unfollowed := true, recurses := true, apart := false }
def NurseryCollectsSaid : Prop := nurseryCollectsRow.holds Tryz.pinned (OpenSpec.ofChange nurseryCollectsSpec)

/-- ITS FALSE NEIGHBOUR: 'it returns false'. Refute it at one input. -/
def nurseryCollectsWrong : ChangeSpec := { name := "nurseryCollects", fn := fun _ => fun
  | [d1, d2, d3] => { results := [.lit (.bool false)], args := [d1, d2, d3] }
  | _ => none }
def NurseryCollectsWrongFalsely : Prop := nurseryCollectsRow.holds Tryz.pinned (OpenSpec.ofChange nurseryCollectsWrong)

/-- 'refmeshlaw10.NurseryEmpty': WHATEVER THE INPUT: true; the input reads as it did. -/
def nurseryEmptySpec : ChangeSpec := { name := "nurseryEmpty", fn := fun _ => fun
  | [d1, d2, d3] => { results := [.lit (.bool true)], args := [d1, d2, d3] }
  | _ => none }
def nurseryEmptyRow : OpenClaim := { program := "ytaijmgkjbbiboaagreat", sum := "f3841c18d940a6500ba2166efa37d99c9e44deaf5b8a545eea772ccacdb5c4a5", func := "refmesh/refmeshlaw10.NurseryEmpty", spec := "nurseryEmpty", unfollowed := true, recurses := true, apart := false }
def NurseryEmptySaid : Prop := nurseryEmptyRow.holds Tryz.pinned (OpenSpec.ofChange nurseryEmptySpec)

/-- ITS FALSE NEIGHBOUR: 'it returns false'. Refute it at one input. -/
def nurseryEmptyWrong : ChangeSpec := { name := "nurseryEmpty", fn := fun _ => fun
  | [d1, d2, d3] => { results := [.lit (.bool false)], args := [d1, d2, d3] }
  | _ => none }
def NurseryEmptyWrongFalsely : Prop := nurseryEmptyRow.holds Tryz.pinned (OpenSpec.ofChange nurseryEmptyWrong)

/-- 'refmeshlaw10.NurseryReachable': WHATEVER THE INPUT: true; the input reads as it did. -/
def nurseryReachableSpec : ChangeSpec := { name := "nurseryReachable", fn := fun _ => fun
  | [d1, d2, d3] => { results := [.lit (.bool true)], args := [d1, d2, d3] }
  | _ => none }
def nurseryReachableRow : OpenClaim := { program := "ytaijmgkjbbiboaagreat", sum := "f3841c18d940a6500ba2166efa37d99c9e44deaf5b8a545eea772ccacdb5c4a5", func := "refmesh/refmeshlaw10.NurseryReachable", spec := "nurseryReachable", unfollowed := true, recurses := true, apart := false }
def NurseryReachableSaid : Prop := nurseryReachableRow.holds Tryz.pinned (OpenSpec.ofChange nurseryReachableSpec)

/-- ITS FALSE NEIGHBOUR: 'it returns false'. Refute it at one input. -/
def nurseryReachableWrong : ChangeSpec := { name := "nurseryReachable", fn := fun _ => fun
  | [d1, d2, d3] => { results := [.lit (.bool false)], args := [d1, d2, d3] }
  | _ => none }
def NurseryReachableWrongFalsely : Prop := nurseryReachableRow.holds Tryz.pinned (OpenSpec.ofChange nurseryReachableWrong)

/-- 'refmeshlaw10.NurseryErrors': WHATEVER THE INPUT: true; the input reads as it did. -/
def nurseryErrorsSpec : ChangeSpec := { name := "nurseryErrors", fn := fun _ => fun
  | [d1, d2, d3] => { results := [.lit (.bool true)], args := [d1, d2, d3] }
  | _ => none }
def nurseryErrorsRow : OpenClaim := { program := "ytaijmgkjbbiboaagreat", sum := "f3841c18d940a6500ba2166efa37d99c9e44deaf5b8a545eea772ccacdb5c4a5", func := "refmesh/refmeshlaw10.NurseryErrors", spec := "nurseryErrors", unfollowed := true, recurses := true, apart := false }
def NurseryErrorsSaid : Prop := nurseryErrorsRow.holds Tryz.pinned (OpenSpec.ofChange nurseryErrorsSpec)

/-- ITS FALSE NEIGHBOUR: 'it returns false'. Refute it at one input. -/
def nurseryErrorsWrong : ChangeSpec := { name := "nurseryErrors", fn := fun _ => fun
  | [d1, d2, d3] => { results := [.lit (.bool false)], args := [d1, d2, d3] }
  | _ => none }
def NurseryErrorsWrongFalsely : Prop := nurseryErrorsRow.holds Tryz.pinned (OpenSpec.ofChange nurseryErrorsWrong)

/- THE SECOND FORM. 'bulk': how many values and letters a reading holds, each counted each time it is reached (what is shared counts as often as it is met; a slice's spare places count too). A statement '..UptoSaid' is the law's where the arguments, and the package variables that the reading takes, are together of bulk at most 1048576: NARROWER than '..Said'. Prove '..Said' where nothing that the law and all that it calls make is longer than what came in: it says more and counts as full. Else prove '..UptoSaid'. A law counts once. -/
mutual
def uptoBulk {H : Type} : DataW H → Nat
  | .lit (.string bytes) => bytes.length + 1
  | .lit _ => 1
  | .nil => 1
  | .ptr d => uptoBulk d + 1
  | .slice elems spare => uptoBulkAll elems + uptoBulkAll spare + 1
  | .agg parts => uptoBulkAll parts + 1
  | .iface _ d => uptoBulk d + 1
  | .map entries => uptoBulkEntries entries + 1
  | .held _ => 1
def uptoBulkAll {H : Type} : List (DataW H) → Nat
  | [] => 0
  | d :: r => uptoBulk d + uptoBulkAll r
def uptoBulkEntries {H : Type} : List (Lit × DataW H) → Nat
  | [] => 0
  | x :: r => uptoBulkEntry x + uptoBulkEntries r
def uptoBulkEntry {H : Type} : Lit × DataW H → Nat
  | (.string bytes, d) => bytes.length + uptoBulk d + 1
  | (_, d) => uptoBulk d + 1
 end
def uptoSmall : (H : Type) → List (DataW H) → Bool := fun _ ds => decide (uptoBulkAll ds ≤ 1048576)
def OpenSpec.upto (s : _root_.Go.ChangeSpec) : _root_.Go.OpenSpec := { _root_.Go.OpenSpec.ofChange s with cond := some uptoSmall }

/-- 'refmeshlaw10.NurseryGraph', WHERE WHAT IT READS IS OF BULK AT MOST 1048576: true; the input reads as it did. -/
def nurseryGraphUptoRow : OpenClaim := { program := "ytaijmgkjbbiboaagreat", sum := "f3841c18d940a6500ba2166efa37d99c9e44deaf5b8a545eea772ccacdb5c4a5", func := "refmesh/refmeshlaw10.NurseryGraph", spec := "nurseryGraph", unfollowed := true, recurses := true, apart := false, narrowed := true }
def NurseryGraphUptoSaid : Prop := nurseryGraphUptoRow.holds Tryz.pinned (OpenSpec.upto nurseryGraphSpec)

/-- 'refmeshlaw10.NurseryKeeps', WHERE WHAT IT READS IS OF BULK AT MOST 1048576: true; the input reads as it did. -/
def nurseryKeepsUptoRow : OpenClaim := { program := "ytaijmgkjbbiboaagreat", sum := "f3841c18d940a6500ba2166efa37d99c9e44deaf5b8a545eea772ccacdb5c4a5", func := "refmesh/refmeshlaw10.NurseryKeeps", spec := "nurseryKeeps", unfollowed := true, recurses := true, apart := false, narrowed := true }
def NurseryKeepsUptoSaid : Prop := nurseryKeepsUptoRow.holds Tryz.pinned (OpenSpec.upto nurseryKeepsSpec)

/-- 'refmeshlaw10.NurseryCollects', WHERE WHAT IT READS IS OF BULK AT MOST 1048576: true; the input reads as it did. -/
def nurseryCollectsUptoRow : OpenClaim := { program := "ytaijmgkjbbiboaagreat", sum := "f3841c18d940a6500ba2166efa37d99c9e44deaf5b8a545eea772ccacdb5c4a5", func := "refmesh/refmeshlaw10.NurseryCollects", spec := "nurseryCollects", unfollowed := true, recurses := true, apart := false, narrowed := true }
def NurseryCollectsUptoSaid : Prop := nurseryCollectsUptoRow.holds Tryz.pinned (OpenSpec.upto nurseryCollectsSpec)

/-- 'refmeshlaw10.NurseryEmpty', WHERE WHAT IT READS IS OF BULK AT MOST 1048576: true; the input reads as it did. -/
def nurseryEmptyUptoRow : OpenClaim := { program := "ytaijmgkjbbiboaagreat", sum := "f3841c18d940a6500ba2166efa37d99c9e44deaf5b8a545eea772ccacdb5c4a5", func := "refmesh/refmeshlaw10.NurseryEmpty", spec := "nurseryEmpty", unfollowed := true, recurses := true, apart := false, narrowed := true }
def NurseryEmptyUptoSaid : Prop := nurseryEmptyUptoRow.holds Tryz.pinned (OpenSpec.upto nurseryEmptySpec)

/-- 'refmeshlaw10.NurseryReachable', WHERE WHAT IT READS IS OF BULK AT MOST 1048576: true; the input reads as it did. -/
def nurseryReachableUptoRow : OpenClaim := { program := "ytaijmgkjbbiboaagreat", sum := "f3841c18d940a6500ba2166efa37d99c9e44deaf5b8a545eea772ccacdb5c4a5", func := "refmesh/refmeshlaw10.NurseryReachable", spec := "nurseryReachable", unfollowed := true, recurses := true, apart := false, narrowed := true }
def NurseryReachableUptoSaid : Prop := nurseryReachableUptoRow.holds Tryz.pinned (OpenSpec.upto nurseryReachableSpec)

/-- 'refmeshlaw10.NurseryErrors', WHERE WHAT IT READS IS OF BULK AT MOST 1048576: true; the input reads as it did. -/
def nurseryErrorsUptoRow : OpenClaim := { program := "ytaijmgkjbbiboaagreat", sum := "f3841c18d940a6500ba2166efa37d99c9e44deaf5b8a545eea772ccacdb5c4a5", func := "refmesh/refmeshlaw10.NurseryErrors", spec := "nurseryErrors", unfollowed := true, recurses := true, apart := false, narrowed := true }
def NurseryErrorsUptoSaid : Prop := nurseryErrorsUptoRow.holds Tryz.pinned (OpenSpec.upto nurseryErrorsSpec)

end Rows
end Go.Proofs.YtaijmgkjbbiboaaGreat
