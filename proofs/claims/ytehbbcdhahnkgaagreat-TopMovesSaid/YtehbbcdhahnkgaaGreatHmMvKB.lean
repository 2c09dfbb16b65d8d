/- The ghost machine: an evaluator of the program's text over plain data, and its soundness. -/
import Derived.Test.YtehbbcdhahnkgaaGreatHmMvD
import Derived.KernelRfl
set_option linter.unusedVariables false
set_option linter.unusedSimpArgs false
namespace Go.Proofs.YtehbbcdhahnkgaaGreat.Hm
open Go
theorem p1036_ck : isSome0 ((runM [] (Γw R0) LL 45 p1036.f p1036.args p1036.n fun res ws nx => endR (entPC p1036 res ws nx)).run (fun _ => none) (preL p1036.pre)) = true := by kernel_rfl
end Go.Proofs.YtehbbcdhahnkgaaGreat.Hm

namespace Go.Proofs.YtehbbcdhahnkgaaGreat.Hm
open Go
theorem p1476_ck : isSome0 ((runM [] (Γw R0) LL 45 p1476.f p1476.args p1476.n fun res ws nx => endR (entPC p1476 res ws nx)).run (fun _ => none) (preL p1476.pre)) = true := by kernel_rfl
end Go.Proofs.YtehbbcdhahnkgaaGreat.Hm

namespace Go.Proofs.YtehbbcdhahnkgaaGreat.Hm
open Go
theorem p2371_ck : isSome0 ((runM [] (Γw R0) LL 45 p2371.f p2371.args p2371.n fun res ws nx => endR (entPC p2371 res ws nx)).run (fun _ => none) (preL p2371.pre)) = true := by kernel_rfl
end Go.Proofs.YtehbbcdhahnkgaaGreat.Hm
