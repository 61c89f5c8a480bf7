/- The table of operations: what bytecode.operations returns, and what its rows hold. -/
import Derived.Test.YtdmbcgkfecmakaaDoorProg
import Derived.WalkKit
import Derived.KernelRfl
namespace Go.Proofs.YtdmbcgkfecmakaaDoor
set_option linter.unusedVariables false
set_option linter.unusedSimpArgs false
set_option linter.unusedSectionVars false
open Go.RowKit
set_option maxRecDepth 100000

def opRows : List (List Nat × Int × Int × Int × Int × Int × Bool × Value) :=
  let N := Value.nilFunc
  let F (n : Nat) := Value.func (.func n) #[] #[]
  let number := F 74
  let name := F 75
  let both := F 76
  [([112, 117, 115, 104], 2305843009213693951, 0, -2305843009213693952, 0, 1, false, number),
   ([110, 105, 108], 0, 0, 0, 0, 1, false, N),
   ([116, 104, 105, 115], 0, 0, 0, 0, 1, false, N),
   ([108, 111, 97, 100], 29, 0, 0, 0, 1, false, number),
   ([115, 116, 111, 114, 101], 29, 0, 0, 1, 0, false, number),
   ([112, 111, 112], 0, 0, 0, 1, 0, false, N),
   ([102, 105, 101, 108, 100], 1023, 0, 0, 1, 1, false, name),
   ([111, 119, 110], 29, 0, 0, 0, 1, false, number),
   ([115, 101, 116, 102, 105, 101, 108, 100], 1023, 0, 0, 2, 0, false, name),
   ([115, 101, 116, 111, 119, 110], 29, 0, 0, 1, 0, false, number),
   ([110, 101, 119], 60, 30, 1, 0, 1, true, both),
   ([110, 101, 119, 97, 116], 60, 30, 1, 1, 1, true, both),
   ([119, 101, 97, 107], 0, 0, 0, 1, 1, false, N),
   ([103, 101, 116], 0, 0, 0, 1, 1, false, N),
   ([110, 101, 103], 0, 0, 0, 1, 1, false, N),
   ([110, 111, 116], 0, 0, 0, 1, 1, false, N),
   ([98, 105, 110, 97, 114, 121], 10, 0, 0, 2, 1, false, F 77),
   ([116, 114, 117, 116, 104], 0, 0, 0, 1, 1, false, N),
   ([106, 117, 109, 112], 4000, 0, 0, 0, 0, false, number),
   ([106, 117, 109, 112, 102, 97, 108, 115, 101], 4000, 0, 0, 1, 0, false, number),
   ([106, 117, 109, 112, 116, 114, 117, 101], 4000, 0, 0, 1, 0, false, number),
   ([115, 101, 110, 100], 1023, 8, 0, 1, 0, true, F 78),
   ([112, 114, 105, 110, 116], 0, 0, 0, 1, 0, false, N),
   ([109, 111, 118, 101], 0, 0, 0, 2, 0, false, N),
   ([119, 97, 116, 99, 104], 1023, 0, 0, 2, 0, false, name),
   ([114, 101, 116, 117, 114, 110], 0, 0, 0, 0, 0, false, N)]

def opCell : (List Nat × Int × Int × Int × Int × Int × Bool × Value) → List Value
  | (s, most, args, least, pops, pushes, counts, text) =>
    [.string ⟨(s.map fun n => n.toUInt8).toArray⟩, .int .i64 most, .int .i64 args, .int .i64 least, .int .i64 pops, .int .i64 pushes, .bool counts, text]

def opCells : Array Value := (opRows.flatMap opCell).toArray

theorem setRow_alloc (w : World) (old cs : Array Value) (t : TypeId) (fr : Nat × Nat) : (w.alloc (.cells old t fr)).setRow w.heap.size cs = w.alloc (.cells cs t fr) := by
  cases w with
  | mk heap tape drawn os output =>
    simp only [World.setRow, World.alloc]
    congr 1
    apply Array.ext
    · simp
    · intro i h1 h2
      simp only [Array.getElem_modify, Array.getElem_push]
      by_cases hi : i < heap.size
      · simp [hi]; omega
      · have : i = heap.size := by simp at h2; omega
        simp [this]

set_option maxHeartbeats 1000000 in
theorem operations_any (w : World) :
    Calls Tryd.prog 48 #[] w fun e w' => e = .returned (.agg opCells) ∧ ∃ o, w' = w.alloc o := by
  go_enter Tryd.func48, Tryd.ntmps48
  go_wp2_with (first | (refine wpList_build rfl _ _ rfl (by kernel_rfl) ?_) | (refine wpList_store_row rfl _ _ _ rfl w.heap.size opCells (by kernel_rfl) (by kernel_rfl) _ _ (heap_alloc_new w _) (by kernel_rfl) (by kernel_rfl) (by kernel_rfl) ?_))
  refine bodyPost_ret (v := .agg opCells) (results_cell_row rfl _ _ w.heap.size _ opCells _ _ (by kernel_rfl) (setRow_heap _ _ _ _ _ _ (heap_alloc_new w _)) Tryd.underlying82 rfl (by kernel_rfl)) rfl ⟨rfl, ?_⟩
  exact ⟨_, setRow_alloc w _ _ _ _⟩

/-- the row of an operation -/
def opRow (n : Nat) : List Nat × Int × Int × Int × Int × Int × Bool × Value := opRows.getD n ([], 0, 0, 0, 0, 0, false, .nilFunc)
def opName (n : Nat) : ByteArray := ⟨((opRow n).1.map fun n => n.toUInt8).toArray⟩
def opMost (n : Nat) : Int := (opRow n).2.1
def opArgs (n : Nat) : Int := (opRow n).2.2.1
def opLeast (n : Nat) : Int := (opRow n).2.2.2.1
def opPops (n : Nat) : Int := (opRow n).2.2.2.2.1
def opPushes (n : Nat) : Int := (opRow n).2.2.2.2.2.1
def opCounts (n : Nat) : Bool := (opRow n).2.2.2.2.2.2.1
def opText (n : Nat) : Value := (opRow n).2.2.2.2.2.2.2

theorem index_op (n : Nat) (h : n < 26) (w : World) : (Instr.index 82 (.agg opCells) (.int .i64 (n : Int))).run Tryd.prog w = .ok (.agg #[.string (opName n), .int .i64 (opMost n), .int .i64 (opArgs n), .int .i64 (opLeast n), .int .i64 (opPops n), .int .i64 (opPushes n), .bool (opCounts n), opText n]) w := by
  have hh : n = 0 ∨ n = 1 ∨ n = 2 ∨ n = 3 ∨ n = 4 ∨ n = 5 ∨ n = 6 ∨ n = 7 ∨ n = 8 ∨ n = 9 ∨ n = 10 ∨ n = 11 ∨ n = 12 ∨ n = 13 ∨ n = 14 ∨ n = 15 ∨ n = 16 ∨ n = 17 ∨ n = 18 ∨ n = 19 ∨ n = 20 ∨ n = 21 ∨ n = 22 ∨ n = 23 ∨ n = 24 ∨ n = 25 := by omega
  rcases hh with rfl | rfl | rfl | rfl | rfl | rfl | rfl | rfl | rfl | rfl | rfl | rfl | rfl | rfl | rfl | rfl | rfl | rfl | rfl | rfl | rfl | rfl | rfl | rfl | rfl | rfl <;> (show _ = _; kernel_rfl)

theorem field_op0 (v0 v1 v2 v3 v4 v5 v6 v7 : Value) (w : World) : (Instr.field 81 (.agg #[v0, v1, v2, v3, v4, v5, v6, v7]) 0).run Tryd.prog w = .ok v0 w := by kernel_rfl
theorem field_op7 (v0 v1 v2 v3 v4 v5 v6 v7 : Value) (w : World) : (Instr.field 81 (.agg #[v0, v1, v2, v3, v4, v5, v6, v7]) 7).run Tryd.prog w = .ok v7 w := by kernel_rfl

set_option maxHeartbeats 1000000 in
theorem Name_in (n : Nat) (h : n < 26) (w : World) :
    Calls Tryd.prog 29 #[.int .i64 (n : Int)] w fun e w' => e = .returned (.string (opName n)) ∧ Below w.heap.size w w' := by
  have h1 : ¬ (n : Int) < 0 := by omega
  have h2 : ¬ (26 : Int) ≤ n := by omega
  have hi := fun w => index_op n h w
  have hf := field_op0
  go_enter Tryd.func29, Tryd.ntmps29
  go_wp2_with (first | (go_at_call 48; refine (operations_any _).mono ?_; rintro e w' ⟨rfl, o, rfl⟩))
  go_ret
  exact ⟨rfl, ((Below.refl _ _).alloc (Nat.le_refl _) _).alloc (by simp) _⟩

set_option maxHeartbeats 1000000 in
theorem Name_out (n : Int) (h : n < 0 ∨ 26 ≤ n) (w : World) :
    Calls Tryd.prog 29 #[.int .i64 n] w fun e w' => e = .returned (.string ⟨#[]⟩) ∧ Below w.heap.size w w' := by
  rcases h with h | h
  · go_enter Tryd.func29, Tryd.ntmps29
    go_wp2_with (first | (go_at_call 48; refine (operations_any _).mono ?_; rintro e w' ⟨rfl, o, rfl⟩))
    go_ret
    exact ⟨rfl, Below.refl _ _⟩
  · have h1 : ¬ n < 0 := by omega
    go_enter Tryd.func29, Tryd.ntmps29
    go_wp2_with (first | (go_at_call 48; refine (operations_any _).mono ?_; rintro e w' ⟨rfl, o, rfl⟩))
    go_ret
    exact ⟨rfl, (Below.refl _ _).alloc (Nat.le_refl _) _⟩
end Go.Proofs.YtdmbcgkfecmakaaDoor
