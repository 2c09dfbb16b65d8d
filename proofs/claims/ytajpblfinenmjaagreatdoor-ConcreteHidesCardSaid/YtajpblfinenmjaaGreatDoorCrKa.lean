import Derived.Test.YtajpblfinenmjaaGreatDoorHneConcreteHidesA
set_option linter.unusedVariables false
set_option linter.unusedSimpArgs false
namespace Go.Proofs.YtajpblfinenmjaaGreatDoor
open Go Go.RowKit
theorem zw93 : CatchOk Tryz.prog 35 := ⟨⟨_, Tryz.func35, by kernel_rfl, by kernel_rfl⟩, ⟨31, fun w g caps Q hen hc => zw8p hen hc⟩⟩
end Go.Proofs.YtajpblfinenmjaaGreatDoor
