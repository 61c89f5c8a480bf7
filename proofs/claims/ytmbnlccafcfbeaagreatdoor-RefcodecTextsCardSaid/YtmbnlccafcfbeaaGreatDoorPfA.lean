/- A short name for a lemma of the library. -/
import Derived.Lib.Hide
import Derived.Below
namespace Go.Proofs.YtmbnlccafcfbeaaGreatDoor
abbrev iv (n : Int) : Go.Value := .int .i64 n
abbrev uv (n : Int) : Go.Value := .int .u64 n
abbrev pq (b o : Nat) : Go.Value := .pointer (some ⟨b, o, none⟩)
abbrev sn : Go.Value := .slice none 0 0
abbrev bf : Go.Value := .bool false
abbrev cl (w : Go.World) (b o : Nat) (v : Go.Value) : Prop := w.cell? ⟨b, o, none⟩ = some v
theorem cgb {a b : Bool} (h : a = b) : Go.Ending.returned (Go.Value.bool a) = Go.Ending.returned (Go.Value.bool b) := congrArg (fun b => Go.Ending.returned (Go.Value.bool b)) h
theorem cgs {a b : ByteArray} (h : a = b) : Go.Ending.returned (Go.Value.string a) = Go.Ending.returned (Go.Value.string b) := congrArg (fun b => Go.Ending.returned (Go.Value.string b)) h
abbrev bw (w w2 : Go.World) : Prop := Go.RowKit.Below w.heap.size w w2
theorem lh {p : Prop} (h : p) : Go.RowKit.Hid p := h
theorem _root_.Go.RowKit.Hid.o {p : Prop} (h : Go.RowKit.Hid p) : p := h.out
end Go.Proofs.YtmbnlccafcfbeaaGreatDoor
