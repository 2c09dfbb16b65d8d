import Derived.Test.YtajpblfinenmjaaGreatDoorFnsConcreteHidesA
import Derived.Test.YtajpblfinenmjaaGreatDoorHnfConcreteHidesA
import Derived.KernelRfl
import Derived.Test.YtajpblfinenmjaaGreatDoorFntConcreteHidesA
set_option linter.unusedVariables false
set_option linter.unusedSimpArgs false
namespace Go.Proofs.YtajpblfinenmjaaGreatDoor
open Go
set_option maxRecDepth 100000
set_option linter.unusedVariables false
noncomputable def zq44_ctr (N : Nat) : Ctr := writeC (zwx N N)
theorem zq44_ok (N : Nat) : Ctr.ok Tryz.prog zwj 37 (zq44_ctr N) := zw5o N N

end Go.Proofs.YtajpblfinenmjaaGreatDoor