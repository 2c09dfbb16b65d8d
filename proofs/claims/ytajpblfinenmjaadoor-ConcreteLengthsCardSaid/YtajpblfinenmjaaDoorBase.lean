/- Small words of this claim: hiding a fact from the walk. -/
import Derived.Test.YtajpblfinenmjaaDoorProg
import Derived.WalkKit
set_option linter.unusedVariables false
set_option linter.unusedSimpArgs false
namespace Go.Proofs.YtajpblfinenmjaaDoor
open Go.RowKit
theorem hd {p : Prop} (h : p) : Hid p := h
theorem ret_b {a b : Bool} (h : a = b) : Ending.returned (.bool a) = .returned (.bool b) := by rw [h]
theorem ret_i {k : IntKind} {a b : Int} (h : a = b) : Ending.returned (.int k a) = .returned (.int k b) := by rw [h]
end Go.Proofs.YtajpblfinenmjaaDoor
