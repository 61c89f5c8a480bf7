/- A short name for a lemma of the library. -/
import Derived.Lib.Hide
namespace Go.Proofs.YtmbnlccafcfbeaaGreatDoor
theorem lh {p : Prop} (h : p) : Go.RowKit.Hid p := h
end Go.Proofs.YtmbnlccafcfbeaaGreatDoor
