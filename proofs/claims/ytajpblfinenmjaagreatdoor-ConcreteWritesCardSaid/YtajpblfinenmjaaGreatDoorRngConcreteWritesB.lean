import Derived.Test.YtajpblfinenmjaaGreatDoorFnsConcreteWritesA
import Derived.Test.YtajpblfinenmjaaGreatDoorHnfConcreteWritesA
import Derived.KernelRfl
import Derived.Test.YtajpblfinenmjaaGreatDoorFntConcreteWritesA
set_option linter.unusedVariables false
set_option linter.unusedSimpArgs false
namespace Go.Proofs.YtajpblfinenmjaaGreatDoor
open Go
set_option maxRecDepth 100000
set_option linter.unusedVariables false
noncomputable def zq35_ctr (N : Nat) : Ctr := writeC (zw2m N N)
theorem zq35_ok (N : Nat) : Ctr.ok Tryz.prog zw8 37 (zq35_ctr N) := zw2n N N

end Go.Proofs.YtajpblfinenmjaaGreatDoor