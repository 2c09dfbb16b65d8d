/- Plain: rules by which a walk over shallow functions is decided. -/
import Derived.Test.YtofajgidjkjnpaaDoorGmLoop
import Derived.Test.YtofajgidjkjnpaaDoorGmInt
import Derived.KernelRfl
set_option linter.unusedVariables false
set_option linter.unusedSimpArgs false
namespace Go.Proofs.YtofajgidjkjnpaaDoor.Pl
open Go
theorem w64_of {x : Int} (h : -9223372036854775808 ≤ x) (h' : x ≤ 9223372036854775807) : w64 x = x := w64_id h h'
theorem tmod_of {a b : Int} (h : 0 ≤ a) : a.tmod b = a % b := Int.tmod_eq_emod_of_nonneg h

end Go.Proofs.YtofajgidjkjnpaaDoor.Pl
