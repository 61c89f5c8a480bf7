/-
  No cell of these rows narrows 'for every input' (looked for: loops, veiled, ifaces, maps, wideKeys, modest, calm, conditions, laid).
  DERIVED. THE GIVEN ROWS OF THIS SEAT. 10 by the template 'for every input the law returns true; each argument reads behind the call as it read before'; 0 by the template 'total and deterministic' (their statements: YtjpaogapclfajaaGreatTotals.lean).
  GIVEN WITH THE SEED: the statements are not yours to turn. If you find one false, say at which input.
  Laid BY PROGRAM, IN A SANDBOX (cutbox-rows.mjs): the forced cells as the released guide's own fill.sh prints them over the translation 8f1cbe58eb7a589c… (all of the seat's roots in one cut). By AI agents, Wed Nov 11 2026. No macro, syntax, notation, axiom, sorry.
-/
import Derived.Test.YtjpaogapclfajaaGreatChecked
import GoSem.Claim
import GoSem.ClaimJoined
import GoSem.ClaimMapViews
import Derived.JoinedTies
import Derived.KernelRfl
namespace Go.Proofs.YtjpaogapclfajaaGreat
/- THE CELL 'sum', in the pinned program and in every row, IS THE sha256 OF THE DUMP (.gsa) THAT YtjpaogapclfajaaGreatProg.lean LOADS. Nothing in Lean hashes anything: it is a label: what it is worth is what the hold of that sum in a sandbox is worth. -/
noncomputable def Tryz.pinned : Pinned := { name := "ytjpaogapclfajaagreat", sum := "8f1cbe58eb7a589cb800dad10201fd547e0529c08d84d3b224bdd14cfb9f50b9", checked := Tryz.checked }
namespace Rows
def none {H : Type} : Left H := { results := [], args := [] }

/-- 'refmeshlaw11.MarkingCalls': WHATEVER THE INPUT: true; the input reads as it did. -/
def markingCallsSpec : ChangeSpec := { name := "markingCalls", fn := fun _ => fun
  | [d1, d2] => { results := [.lit (.bool true)], args := [d1, d2] }
  | _ => none }
def markingCallsRow : OpenClaim := { program := "ytjpaogapclfajaagreat", sum := "8f1cbe58eb7a589cb800dad10201fd547e0529c08d84d3b224bdd14cfb9f50b9", func := "refmesh/refmeshlaw11.MarkingCalls", spec := "markingCalls", unfollowed := true, recurses := true, apart := false }
def MarkingCallsSaid : Prop := markingCallsRow.holds Tryz.pinned (OpenSpec.ofChange markingCallsSpec)

/-- ITS FALSE NEIGHBOUR: 'it returns false'. Refute it at one input. -/
def markingCallsWrong : ChangeSpec := { name := "markingCalls", fn := fun _ => fun
  | [d1, d2] => { results := [.lit (.bool false)], args := [d1, d2] }
  | _ => none }
def MarkingCallsWrongFalsely : Prop := markingCallsRow.holds Tryz.pinned (OpenSpec.ofChange markingCallsWrong)

/-- 'refmeshlaw11.MarkingKeeps': WHATEVER THE INPUT: true; the input reads as it did. -/
def markingKeepsSpec : ChangeSpec := { name := "markingKeeps", fn := fun _ => fun
  | [d1, d2, d3] => { results := [.lit (.bool true)], args := [d1, d2, d3] }
  | _ => none }
def markingKeepsRow : OpenClaim := { program := "ytjpaogapclfajaagreat", sum := "8f1cbe58eb7a589cb800dad10201fd547e0529c08d84d3b224bdd14cfb9f50b9", func := "refmesh/refmeshlaw11.MarkingKeeps", spec := "markingKeeps", unfollowed := true, recurses := true, apart := false }
def MarkingKeepsSaid : Prop := markingKeepsRow.holds Tryz.pinned (OpenSpec.ofChange markingKeepsSpec)

/-- ITS FALSE NEIGHBOUR: 'it returns false'. Refute it at one input. -/
def markingKeepsWrong : ChangeSpec := { name := "markingKeeps", fn := fun _ => fun
  | [d1, d2, d3] => { results := [.lit (.bool false)], args := [d1, d2, d3] }
  | _ => none }
def MarkingKeepsWrongFalsely : Prop := markingKeepsRow.holds Tryz.pinned (OpenSpec.ofChange markingKeepsWrong)

/-- 'refmeshlaw11.MarkingLeaves': WHATEVER THE INPUT: true; the input reads as it did. -/
def markingLeavesSpec : ChangeSpec := { name := "markingLeaves", fn := fun _ => fun
  | [d1, d2] => { results := [.lit (.bool true)], args := [d1, d2] }
  | _ => none }
def markingLeavesRow : OpenClaim := { program := "ytjpaogapclfajaagreat", sum := "8f1cbe58eb7a589cb800dad10201fd547e0529c08d84d3b224bdd14cfb9f50b9", func := "refmesh/refmeshlaw11.MarkingLeaves", spec := "markingLeaves", unfollowed := true, recurses := true, apart := false }
def MarkingLeavesSaid : Prop := markingLeavesRow.holds Tryz.pinned (OpenSpec.ofChange markingLeavesSpec)

/-- ITS FALSE NEIGHBOUR: 'it returns false'. Refute it at one input. -/
def markingLeavesWrong : ChangeSpec := { name := "markingLeaves", fn := fun _ => fun
  | [d1, d2] => { results := [.lit (.bool false)], args := [d1, d2] }
  | _ => none }
def MarkingLeavesWrongFalsely : Prop := markingLeavesRow.holds Tryz.pinned (OpenSpec.ofChange markingLeavesWrong)

/-- 'refmeshlaw12.CompactionPlans': WHATEVER THE INPUT: true; the input reads as it did. -/
def compactionPlansSpec : ChangeSpec := { name := "compactionPlans", fn := fun _ => fun
  | [d1, d2, d3] => { results := [.lit (.bool true)], args := [d1, d2, d3] }
  | _ => none }
def compactionPlansRow : OpenClaim := { program := "ytjpaogapclfajaagreat", sum := "8f1cbe58eb7a589cb800dad10201fd547e0529c08d84d3b224bdd14cfb9f50b9", func := "refmesh/refmeshlaw12.CompactionPlans", spec := "compactionPlans", unfollowed := true, recurses := true, apart := false }
def CompactionPlansSaid : Prop := compactionPlansRow.holds Tryz.pinned (OpenSpec.ofChange compactionPlansSpec)

/-- ITS FALSE NEIGHBOUR: 'it returns false'. Refute it at one input. -/
def compactionPlansWrong : ChangeSpec := { name := "compactionPlans", fn := fun _ => fun
  | [d1, d2, d3] => { results := [.lit (.bool false)], args := [d1, d2, d3] }
  | _ => none }
def CompactionPlansWrongFalsely : Prop := compactionPlansRow.holds Tryz.pinned (OpenSpec.ofChange compactionPlansWrong)

/-- 'refmeshlaw12.CompactionCompacts': WHATEVER THE INPUT: true; the input reads as it did. -/
def compactionCompactsSpec : ChangeSpec := { name := "compactionCompacts", fn := fun _ => fun
  | [d1, d2, d3, d4] => { results := [.lit (.bool true)], args := [d1, d2, d3, d4] }
  | _ => none }
def compactionCompactsRow : OpenClaim := { program := "ytjpaogapclfajaagreat", sum := "8f1cbe58eb7a589cb800dad10201fd547e0529c08d84d3b224bdd14cfb9f50b9", func := "refmesh/refmeshlaw12.CompactionCompacts", spec := "compactionCompacts", unfollowed := true, recurses := true, apart := false }
def CompactionCompactsSaid : Prop := compactionCompactsRow.holds Tryz.pinned (OpenSpec.ofChange compactionCompactsSpec)

/-- ITS FALSE NEIGHBOUR: 'it returns false'. Refute it at one input. -/
def compactionCompactsWrong : ChangeSpec := { name := "compactionCompacts", fn := fun _ => fun
  | [d1, d2, d3, d4] => { results := [.lit (.bool false)], args := [d1, d2, d3, d4] }
  | _ => none }
def CompactionCompactsWrongFalsely : Prop := compactionCompactsRow.holds Tryz.pinned (OpenSpec.ofChange compactionCompactsWrong)

/-- 'refmeshlaw12.CompactionRoots': WHATEVER THE INPUT: true; the input reads as it did. -/
def compactionRootsSpec : ChangeSpec := { name := "compactionRoots", fn := fun _ => fun
  | [d1, d2, d3] => { results := [.lit (.bool true)], args := [d1, d2, d3] }
  | _ => none }
def compactionRootsRow : OpenClaim := { program := "ytjpaogapclfajaagreat", sum := "8f1cbe58eb7a589cb800dad10201fd547e0529c08d84d3b224bdd14cfb9f50b9", func := "refmesh/refmeshlaw12.CompactionRoots", spec := "compactionRoots", unfollowed := true, recurses := true, apart := false }
def CompactionRootsSaid : Prop := compactionRootsRow.holds Tryz.pinned (OpenSpec.ofChange compactionRootsSpec)

/-- ITS FALSE NEIGHBOUR: 'it returns false'. Refute it at one input. -/
def compactionRootsWrong : ChangeSpec := { name := "compactionRoots", fn := fun _ => fun
  | [d1, d2, d3] => { results := [.lit (.bool false)], args := [d1, d2, d3] }
  | _ => none }
def CompactionRootsWrongFalsely : Prop := compactionRootsRow.holds Tryz.pinned (OpenSpec.ofChange compactionRootsWrong)

/-- 'refmeshlaw12.CompactionSlides': WHATEVER THE INPUT: true; the input reads as it did. -/
def compactionSlidesSpec : ChangeSpec := { name := "compactionSlides", fn := fun _ => fun
  | [d1, d2, d3] => { results := [.lit (.bool true)], args := [d1, d2, d3] }
  | _ => none }
def compactionSlidesRow : OpenClaim := { program := "ytjpaogapclfajaagreat", sum := "8f1cbe58eb7a589cb800dad10201fd547e0529c08d84d3b224bdd14cfb9f50b9", func := "refmesh/refmeshlaw12.CompactionSlides", spec := "compactionSlides", unfollowed := true, recurses := true, apart := false }
def CompactionSlidesSaid : Prop := compactionSlidesRow.holds Tryz.pinned (OpenSpec.ofChange compactionSlidesSpec)

/-- ITS FALSE NEIGHBOUR: 'it returns false'. Refute it at one input. -/
def compactionSlidesWrong : ChangeSpec := { name := "compactionSlides", fn := fun _ => fun
  | [d1, d2, d3] => { results := [.lit (.bool false)], args := [d1, d2, d3] }
  | _ => none }
def CompactionSlidesWrongFalsely : Prop := compactionSlidesRow.holds Tryz.pinned (OpenSpec.ofChange compactionSlidesWrong)

/-- 'refmeshlaw12.CompactionAgain': WHATEVER THE INPUT: true; the input reads as it did. -/
def compactionAgainSpec : ChangeSpec := { name := "compactionAgain", fn := fun _ => fun
  | [d1, d2, d3] => { results := [.lit (.bool true)], args := [d1, d2, d3] }
  | _ => none }
def compactionAgainRow : OpenClaim := { program := "ytjpaogapclfajaagreat", sum := "8f1cbe58eb7a589cb800dad10201fd547e0529c08d84d3b224bdd14cfb9f50b9", func := "refmesh/refmeshlaw12.CompactionAgain", spec := "compactionAgain", unfollowed := true, recurses := true, apart := false }
def CompactionAgainSaid : Prop := compactionAgainRow.holds Tryz.pinned (OpenSpec.ofChange compactionAgainSpec)

/-- ITS FALSE NEIGHBOUR: 'it returns false'. Refute it at one input. -/
def compactionAgainWrong : ChangeSpec := { name := "compactionAgain", fn := fun _ => fun
  | [d1, d2, d3] => { results := [.lit (.bool false)], args := [d1, d2, d3] }
  | _ => none }
def CompactionAgainWrongFalsely : Prop := compactionAgainRow.holds Tryz.pinned (OpenSpec.ofChange compactionAgainWrong)

/-- 'refmeshlaw12.CompactionWalks': WHATEVER THE INPUT: true; the input reads as it did. -/
def compactionWalksSpec : ChangeSpec := { name := "compactionWalks", fn := fun _ => fun
  | [d1, d2, d3] => { results := [.lit (.bool true)], args := [d1, d2, d3] }
  | _ => none }
def compactionWalksRow : OpenClaim := { program := "ytjpaogapclfajaagreat", sum := "8f1cbe58eb7a589cb800dad10201fd547e0529c08d84d3b224bdd14cfb9f50b9", func := "refmesh/refmeshlaw12.CompactionWalks", spec := "compactionWalks", unfollowed := true, recurses := true, apart := false }
def CompactionWalksSaid : Prop := compactionWalksRow.holds Tryz.pinned (OpenSpec.ofChange compactionWalksSpec)

/-- ITS FALSE NEIGHBOUR: 'it returns false'. Refute it at one input. -/
def compactionWalksWrong : ChangeSpec := { name := "compactionWalks", fn := fun _ => fun
  | [d1, d2, d3] => { results := [.lit (.bool false)], args := [d1, d2, d3] }
  | _ => none }
def CompactionWalksWrongFalsely : Prop := compactionWalksRow.holds Tryz.pinned (OpenSpec.ofChange compactionWalksWrong)

/-- 'refmeshlaw12.CompactionKeeps': WHATEVER THE INPUT: true; the input reads as it did. -/
def compactionKeepsSpec : ChangeSpec := { name := "compactionKeeps", fn := fun _ => fun
  | [d1, d2, d3] => { results := [.lit (.bool true)], args := [d1, d2, d3] }
  | _ => none }
def compactionKeepsRow : OpenClaim := { program := "ytjpaogapclfajaagreat", sum := "8f1cbe58eb7a589cb800dad10201fd547e0529c08d84d3b224bdd14cfb9f50b9", func := "refmesh/refmeshlaw12.CompactionKeeps", spec := "compactionKeeps", unfollowed := true, recurses := true, apart := false }
def CompactionKeepsSaid : Prop := compactionKeepsRow.holds Tryz.pinned (OpenSpec.ofChange compactionKeepsSpec)

/-- ITS FALSE NEIGHBOUR: 'it returns false'. Refute it at one input. -/
def compactionKeepsWrong : ChangeSpec := { name := "compactionKeeps", fn := fun _ => fun
  | [d1, d2, d3] => { results := [.lit (.bool false)], args := [d1, d2, d3] }
  | _ => none }
def CompactionKeepsWrongFalsely : Prop := compactionKeepsRow.holds Tryz.pinned (OpenSpec.ofChange compactionKeepsWrong)

/- THE SECOND FORM. 'bulk': how many values and letters a reading holds, each counted each time it is reached (what is shared counts as often as it is met; a slice's spare places count too). A statement '..UptoSaid' is the law's where the arguments, and the package variables that the reading takes, are together of bulk at most 1048576: NARROWER than '..Said'. Prove '..Said' where nothing that the law and all that it calls make is longer than what came in: it says more and counts as full. Else prove '..UptoSaid'. A law counts once. -/
mutual
def uptoBulk {H : Type} : DataW H → Nat
  | .lit (.string bytes) => bytes.length + 1
  | .lit _ => 1
  | .nil => 1
  | .ptr d => uptoBulk d + 1
  | .slice elems spare => uptoBulkAll elems + uptoBulkAll spare + 1
  | .agg parts => uptoBulkAll parts + 1
  | .iface _ d => uptoBulk d + 1
  | .map entries => uptoBulkEntries entries + 1
  | .held _ => 1
def uptoBulkAll {H : Type} : List (DataW H) → Nat
  | [] => 0
  | d :: r => uptoBulk d + uptoBulkAll r
def uptoBulkEntries {H : Type} : List (Lit × DataW H) → Nat
  | [] => 0
  | x :: r => uptoBulkEntry x + uptoBulkEntries r
def uptoBulkEntry {H : Type} : Lit × DataW H → Nat
  | (.string bytes, d) => bytes.length + uptoBulk d + 1
  | (_, d) => uptoBulk d + 1
 end
def uptoSmall : (H : Type) → List (DataW H) → Bool := fun _ ds => decide (uptoBulkAll ds ≤ 1048576)
def OpenSpec.upto (s : _root_.Go.ChangeSpec) : _root_.Go.OpenSpec := { _root_.Go.OpenSpec.ofChange s with cond := some uptoSmall }

/-- 'refmeshlaw11.MarkingCalls', WHERE WHAT IT READS IS OF BULK AT MOST 1048576: true; the input reads as it did. -/
def markingCallsUptoRow : OpenClaim := { program := "ytjpaogapclfajaagreat", sum := "8f1cbe58eb7a589cb800dad10201fd547e0529c08d84d3b224bdd14cfb9f50b9", func := "refmesh/refmeshlaw11.MarkingCalls", spec := "markingCalls", unfollowed := true, recurses := true, apart := false, narrowed := true }
def MarkingCallsUptoSaid : Prop := markingCallsUptoRow.holds Tryz.pinned (OpenSpec.upto markingCallsSpec)

/-- 'refmeshlaw11.MarkingKeeps', WHERE WHAT IT READS IS OF BULK AT MOST 1048576: true; the input reads as it did. -/
def markingKeepsUptoRow : OpenClaim := { program := "ytjpaogapclfajaagreat", sum := "8f1cbe58eb7a589cb800dad10201fd547e0529c08d84d3b224bdd14cfb9f50b9", func := "refmesh/refmeshlaw11.MarkingKeeps", spec := "markingKeeps", unfollowed := true, recurses := true, apart := false, narrowed := true }
def MarkingKeepsUptoSaid : Prop := markingKeepsUptoRow.holds Tryz.pinned (OpenSpec.upto markingKeepsSpec)

/-- 'refmeshlaw11.MarkingLeaves', WHERE WHAT IT READS IS OF BULK AT MOST 1048576: true; the input reads as it did. -/
def markingLeavesUptoRow : OpenClaim := { program := "ytjpaogapclfajaagreat", sum := "8f1cbe58eb7a589cb800dad10201fd547e0529c08d84d3b224bdd14cfb9f50b9", func := "refmesh/refmeshlaw11.MarkingLeaves", spec := "markingLeaves", unfollowed := true, recurses := true, apart := false, narrowed := true }
def MarkingLeavesUptoSaid : Prop := markingLeavesUptoRow.holds Tryz.pinned (OpenSpec.upto markingLeavesSpec)

/-- 'refmeshlaw12.CompactionPlans', WHERE WHAT IT READS IS OF BULK AT MOST 1048576: true; the input reads as it did. -/
def compactionPlansUptoRow : OpenClaim := { program := "ytjpaogapclfajaagreat", sum := "8f1cbe58eb7a589cb800dad10201fd547e0529c08d84d3b224bdd14cfb9f50b9", func := "refmesh/refmeshlaw12.CompactionPlans", spec := "compactionPlans", unfollowed := true, recurses := true, apart := false, narrowed := true }
def CompactionPlansUptoSaid : Prop := compactionPlansUptoRow.holds Tryz.pinned (OpenSpec.upto compactionPlansSpec)

/-- 'refmeshlaw12.CompactionCompacts', WHERE WHAT IT READS IS OF BULK AT MOST 1048576: true; the input reads as it did. -/
def compactionCompactsUptoRow : OpenClaim := { program := "ytjpaogapclfajaagreat", sum := "8f1cbe58eb7a589cb800dad10201fd547e0529c08d84d3b224bdd14cfb9f50b9", func := "refmesh/refmeshlaw12.CompactionCompacts", spec := "compactionCompacts", unfollowed := true, recurses := true, apart := false, narrowed := true }
def CompactionCompactsUptoSaid : Prop := compactionCompactsUptoRow.holds Tryz.pinned (OpenSpec.upto compactionCompactsSpec)

/-- 'refmeshlaw12.CompactionRoots', WHERE WHAT IT READS IS OF BULK AT MOST 1048576: true; the input reads as it did. -/
def compactionRootsUptoRow : OpenClaim := { program := "ytjpaogapclfajaagreat", sum := "8f1cbe58eb7a589cb800dad10201fd547e0529c08d84d3b224bdd14cfb9f50b9", func := "refmesh/refmeshlaw12.CompactionRoots", spec := "compactionRoots", unfollowed := true, recurses := true, apart := false, narrowed := true }
def CompactionRootsUptoSaid : Prop := compactionRootsUptoRow.holds Tryz.pinned (OpenSpec.upto compactionRootsSpec)

/-- 'refmeshlaw12.CompactionSlides', WHERE WHAT IT READS IS OF BULK AT MOST 1048576: true; the input reads as it did. -/
def compactionSlidesUptoRow : OpenClaim := { program := "ytjpaogapclfajaagreat", sum := "8f1cbe58eb7a589cb800dad10201fd547e0529c08d84d3b224bdd14cfb9f50b9", func := "refmesh/refmeshlaw12.CompactionSlides", spec := "compactionSlides", unfollowed := true, recurses := true, apart := false, narrowed := true }
def CompactionSlidesUptoSaid : Prop := compactionSlidesUptoRow.holds Tryz.pinned (OpenSpec.upto compactionSlidesSpec)

/-- 'refmeshlaw12.CompactionAgain', WHERE WHAT IT READS IS OF BULK AT MOST 1048576: true; the input reads as it did. -/
def compactionAgainUptoRow : OpenClaim := { program := "ytjpaogapclfajaagreat", sum := "8f1cbe58eb7a589cb800dad10201fd547e0529c08d84d3b224bdd14cfb9f50b9", func := "refmesh/refmeshlaw12.CompactionAgain", spec := "compactionAgain", unfollowed := true, recurses := true, apart := false, narrowed := true }
def CompactionAgainUptoSaid : Prop := compactionAgainUptoRow.holds Tryz.pinned (OpenSpec.upto compactionAgainSpec)

/-- 'refmeshlaw12.CompactionWalks', WHERE WHAT IT READS IS OF BULK AT MOST 1048576: true; the input reads as it did. -/
def compactionWalksUptoRow : OpenClaim := { program := "ytjpaogapclfajaagreat", sum := "8f1cbe58eb7a589cb800dad10201fd547e0529c08d84d3b224bdd14cfb9f50b9", func := "refmesh/refmeshlaw12.CompactionWalks", spec := "compactionWalks", unfollowed := true, recurses := true, apart := false, narrowed := true }
def CompactionWalksUptoSaid : Prop := compactionWalksUptoRow.holds Tryz.pinned (OpenSpec.upto compactionWalksSpec)

/-- 'refmeshlaw12.CompactionKeeps', WHERE WHAT IT READS IS OF BULK AT MOST 1048576: true; the input reads as it did. -/
def compactionKeepsUptoRow : OpenClaim := { program := "ytjpaogapclfajaagreat", sum := "8f1cbe58eb7a589cb800dad10201fd547e0529c08d84d3b224bdd14cfb9f50b9", func := "refmesh/refmeshlaw12.CompactionKeeps", spec := "compactionKeeps", unfollowed := true, recurses := true, apart := false, narrowed := true }
def CompactionKeepsUptoSaid : Prop := compactionKeepsUptoRow.holds Tryz.pinned (OpenSpec.upto compactionKeepsSpec)

end Rows
end Go.Proofs.YtjpaogapclfajaaGreat
