import Derived.Test.YtajpblfinenmjaaDoorFnsConcreteLengthsA
import Derived.Test.YtajpblfinenmjaaDoorHnfConcreteLengthsA
import Derived.KernelRfl
import Derived.Test.YtajpblfinenmjaaDoorFntConcreteLengthsA
import Derived.Test.YtajpblfinenmjaaDoorFntConcreteLengthsB
set_option linter.unusedVariables false
set_option linter.unusedSimpArgs false
namespace Go.Proofs.YtajpblfinenmjaaDoor
open Go
set_option maxRecDepth 100000
set_option linter.unusedVariables false
/-! ipsecgate/concrete.write: a text by hand, as of a range over a function -/
noncomputable def concrete_write_ctr (N : Nat) : Ctr := writeC (concrete_writeR N N)
theorem concrete_write_ok (N : Nat) : Ctr.ok Tryd.prog G_globs 29 (concrete_write_ctr N) := writeR_ok N N

end Go.Proofs.YtajpblfinenmjaaDoor