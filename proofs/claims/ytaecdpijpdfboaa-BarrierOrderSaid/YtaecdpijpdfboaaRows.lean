/-
  No cell of these rows narrows 'for every input' (looked for: loops, veiled, ifaces, maps, wideKeys, modest, calm, conditions, laid).
  DERIVED. THE GIVEN ROWS OF THIS SEAT. 4 by the template 'for every input the law returns true; each argument reads behind the call as it read before'; 0 by the template 'total and deterministic' (their statements: YtaecdpijpdfboaaTotals.lean).
  GIVEN WITH THE SEED: the statements are not yours to turn. If you find one false, say at which input.
  Laid BY PROGRAM, IN A SANDBOX (cutbox-rows.mjs): the forced cells as the released guide's own fill.sh prints them over the translation 1821628677fabad8… (all of the seat's roots in one cut). By AI agents, Wed Nov 11 2026. No macro, syntax, notation, axiom, sorry.
-/
import Derived.Test.YtaecdpijpdfboaaChecked
import GoSem.Claim
import GoSem.ClaimJoined
import GoSem.ClaimMapViews
import Derived.JoinedTies
import Derived.KernelRfl
namespace Go.Proofs.Ytaecdpijpdfboaa
/- THE CELL 'sum', in the pinned program and in every row, IS THE sha256 OF THE DUMP (.gsa) THAT YtaecdpijpdfboaaProg.lean LOADS. Nothing in Lean hashes anything: it is a label: what it is worth is what the hold of that sum in a sandbox is worth. -/
noncomputable def Try.pinned : Pinned := { name := "ytaecdpijpdfboaa", sum := "1821628677fabad815571f261769efef2da9bd9f315ba01be660c927f957b03b", checked := Try.checked }
namespace Rows
def none {H : Type} : Left H := { results := [], args := [] }

/-- 'refmeshlaw09.BarrierCovers': WHATEVER THE INPUT: true; the input reads as it did. -/
def barrierCoversSpec : ChangeSpec := { name := "barrierCovers", fn := fun _ => fun
  | [d] => { results := [.lit (.bool true)], args := [d] }
  | _ => none }
def barrierCoversRow : OpenClaim := { program := "ytaecdpijpdfboaa", sum := "1821628677fabad815571f261769efef2da9bd9f315ba01be660c927f957b03b", func := "refmesh/refmeshlaw09.BarrierCovers", spec := "barrierCovers", unfollowed := true, recurses := true, apart := false }
def BarrierCoversSaid : Prop := barrierCoversRow.holds Try.pinned (OpenSpec.ofChange barrierCoversSpec)

/-- ITS FALSE NEIGHBOUR: 'it returns false'. Refute it at one input. -/
def barrierCoversWrong : ChangeSpec := { name := "barrierCovers", fn := fun _ => fun
  | [d] => { results := [.lit (.bool false)], args := [d] }
  | _ => none }
def BarrierCoversWrongFalsely : Prop := barrierCoversRow.holds Try.pinned (OpenSpec.ofChange barrierCoversWrong)

/-- 'refmeshlaw09.BarrierFinds': WHATEVER THE INPUT: true; the input reads as it did. -/
def barrierFindsSpec : ChangeSpec := { name := "barrierFinds", fn := fun _ => fun
  | [d1, d2, d3, d4] => { results := [.lit (.bool true)], args := [d1, d2, d3, d4] }
  | _ => none }
def barrierFindsRow : OpenClaim := { program := "ytaecdpijpdfboaa", sum := "1821628677fabad815571f261769efef2da9bd9f315ba01be660c927f957b03b", func := "refmesh/refmeshlaw09.BarrierFinds", spec := "barrierFinds", unfollowed := true, recurses := true, apart := false }
def BarrierFindsSaid : Prop := barrierFindsRow.holds Try.pinned (OpenSpec.ofChange barrierFindsSpec)

/-- ITS FALSE NEIGHBOUR: 'it returns false'. Refute it at one input. -/
def barrierFindsWrong : ChangeSpec := { name := "barrierFinds", fn := fun _ => fun
  | [d1, d2, d3, d4] => { results := [.lit (.bool false)], args := [d1, d2, d3, d4] }
  | _ => none }
def BarrierFindsWrongFalsely : Prop := barrierFindsRow.holds Try.pinned (OpenSpec.ofChange barrierFindsWrong)

/-- 'refmeshlaw09.BarrierClears': WHATEVER THE INPUT: true; the input reads as it did. -/
def barrierClearsSpec : ChangeSpec := { name := "barrierClears", fn := fun _ => fun
  | [d] => { results := [.lit (.bool true)], args := [d] }
  | _ => none }
def barrierClearsRow : OpenClaim := { program := "ytaecdpijpdfboaa", sum := "1821628677fabad815571f261769efef2da9bd9f315ba01be660c927f957b03b", func := "refmesh/refmeshlaw09.BarrierClears", spec := "barrierClears", unfollowed := true, recurses := true, apart := false }
def BarrierClearsSaid : Prop := barrierClearsRow.holds Try.pinned (OpenSpec.ofChange barrierClearsSpec)

/-- ITS FALSE NEIGHBOUR: 'it returns false'. Refute it at one input. -/
def barrierClearsWrong : ChangeSpec := { name := "barrierClears", fn := fun _ => fun
  | [d] => { results := [.lit (.bool false)], args := [d] }
  | _ => none }
def BarrierClearsWrongFalsely : Prop := barrierClearsRow.holds Try.pinned (OpenSpec.ofChange barrierClearsWrong)

/-- 'refmeshlaw09.BarrierOrder': WHATEVER THE INPUT: true; the input reads as it did. -/
def barrierOrderSpec : ChangeSpec := { name := "barrierOrder", fn := fun _ => fun
  | [d] => { results := [.lit (.bool true)], args := [d] }
  | _ => none }
def barrierOrderRow : OpenClaim := { program := "ytaecdpijpdfboaa", sum := "1821628677fabad815571f261769efef2da9bd9f315ba01be660c927f957b03b", func := "refmesh/refmeshlaw09.BarrierOrder", spec := "barrierOrder", unfollowed := true, recurses := true, apart := false }
def BarrierOrderSaid : Prop := barrierOrderRow.holds Try.pinned (OpenSpec.ofChange barrierOrderSpec)

/-- ITS FALSE NEIGHBOUR: 'it returns false'. Refute it at one input. -/
def barrierOrderWrong : ChangeSpec := { name := "barrierOrder", fn := fun _ => fun
  | [d] => { results := [.lit (.bool false)], args := [d] }
  | _ => none }
def BarrierOrderWrongFalsely : Prop := barrierOrderRow.holds Try.pinned (OpenSpec.ofChange barrierOrderWrong)

/- THE SECOND FORM. 'bulk': how many values and letters a reading holds, each counted each time it is reached (what is shared counts as often as it is met; a slice's spare places count too). A statement '..UptoSaid' is the law's where the arguments, and the package variables that the reading takes, are together of bulk at most 1048576: NARROWER than '..Said'. Prove '..Said' where nothing that the law and all that it calls make is longer than what came in: it says more and counts as full. Else prove '..UptoSaid'. A law counts once. -/
mutual
def uptoBulk {H : Type} : DataW H → Nat
  | .lit (.string bytes) => bytes.length + 1
  | .lit _ => 1
  | .nil => 1
  | .ptr d => uptoBulk d + 1
  | .slice elems spare => uptoBulkAll elems + uptoBulkAll spare + 1
  | .agg parts => uptoBulkAll parts + 1
  | .iface _ d => uptoBulk d + 1
  | .map entries => uptoBulkEntries entries + 1
  | .held _ => 1
def uptoBulkAll {H : Type} : List (DataW H) → Nat
  | [] => 0
  | d :: r => uptoBulk d + uptoBulkAll r
def uptoBulkEntries {H : Type} : List (Lit × DataW H) → Nat
  | [] => 0
  | x :: r => uptoBulkEntry x + uptoBulkEntries r
def uptoBulkEntry {H : Type} : Lit × DataW H → Nat
  | (.string bytes, d) => bytes.length + uptoBulk d + 1
  | (_, d) => uptoBulk d + 1
 end
def uptoSmall : (H : Type) → List (DataW H) → Bool := fun _ ds => decide (uptoBulkAll ds ≤ 1048576)
def OpenSpec.upto (s : _root_.Go.ChangeSpec) : _root_.Go.OpenSpec := { _root_.Go.OpenSpec.ofChange s with cond := some uptoSmall }

/-- 'refmeshlaw09.BarrierCovers', WHERE WHAT IT READS IS OF BULK AT MOST 1048576: true; the input reads as it did. -/
def barrierCoversUptoRow : OpenClaim := { program := "ytaecdpijpdfboaa", sum := "1821628677fabad815571f261769efef2da9bd9f315ba01be660c927f957b03b", func := "refmesh/refmeshlaw09.BarrierCovers", spec := "barrierCovers", unfollowed := true, recurses := true, apart := false, narrowed := true }
def BarrierCoversUptoSaid : Prop := barrierCoversUptoRow.holds Try.pinned (OpenSpec.upto barrierCoversSpec)

/-- 'refmeshlaw09.BarrierFinds', WHERE WHAT IT READS IS OF BULK AT MOST 1048576: true; the input reads as it did. -/
def barrierFindsUptoRow : OpenClaim := { program := "ytaecdpijpdfboaa", sum := "1821628677fabad815571f261769efef2da9bd9f315ba01be660c927f957b03b", func := "refmesh/refmeshlaw09.BarrierFinds", spec := "barrierFinds", unfollowed := true, recurses := true, apart := false, narrowed := true }
def BarrierFindsUptoSaid : Prop := barrierFindsUptoRow.holds Try.pinned (OpenSpec.upto barrierFindsSpec)

/-- 'refmeshlaw09.BarrierClears', WHERE WHAT IT READS IS OF BULK AT MOST 1048576: true; the input reads as it did. -/
def barrierClearsUptoRow : OpenClaim := { program := "ytaecdpijpdfboaa", sum := "1821628677fabad815571f261769efef2da9bd9f315ba01be660c927f957b03b", func := "refmesh/refmeshlaw09.BarrierClears", spec := "barrierClears", unfollowed := true, recurses := true, apart := false, narrowed := true }
def BarrierClearsUptoSaid : Prop := barrierClearsUptoRow.holds Try.pinned (OpenSpec.upto barrierClearsSpec)

/-- 'refmeshlaw09.BarrierOrder', WHERE WHAT IT READS IS OF BULK AT MOST 1048576: true; the input reads as it did. -/
def barrierOrderUptoRow : OpenClaim := { program := "ytaecdpijpdfboaa", sum := "1821628677fabad815571f261769efef2da9bd9f315ba01be660c927f957b03b", func := "refmesh/refmeshlaw09.BarrierOrder", spec := "barrierOrder", unfollowed := true, recurses := true, apart := false, narrowed := true }
def BarrierOrderUptoSaid : Prop := barrierOrderUptoRow.holds Try.pinned (OpenSpec.upto barrierOrderSpec)

end Rows
end Go.Proofs.Ytaecdpijpdfboaa
