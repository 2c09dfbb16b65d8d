import Derived.Test.YtajpblfinenmjaaGreatDoorFnsConcreteReturnsA
import Derived.Test.YtajpblfinenmjaaGreatDoorHnfConcreteReturnsA
import Derived.KernelRfl
import Derived.Test.YtajpblfinenmjaaGreatDoorFntConcreteReturnsA
set_option linter.unusedVariables false
set_option linter.unusedSimpArgs false
namespace Go.Proofs.YtajpblfinenmjaaGreatDoor
open Go
set_option maxRecDepth 100000
set_option linter.unusedVariables false
noncomputable def zq47_ctr (N : Nat) : Ctr := writeC (zwx N N)
theorem zq47_ok (N : Nat) : Ctr.ok Tryz.prog zwi 37 (zq47_ctr N) := zw5n N N

end Go.Proofs.YtajpblfinenmjaaGreatDoor