/- Small words of this claim: hiding a fact from the walk. -/
import Derived.Test.YtehbbcdhahnkgaaGreatProg
import Derived.WalkKit
set_option linter.unusedVariables false
set_option linter.unusedSimpArgs false
namespace Go.Proofs.YtehbbcdhahnkgaaGreat
open Go.RowKit
theorem hd {p : Prop} (h : p) : Hid p := h
end Go.Proofs.YtehbbcdhahnkgaaGreat
