/- The ghost machine: an evaluator of the program's text over plain data, and its soundness. -/
import Derived.Test.YtehbbcdhahnkgaaGreatHmTrD
import Derived.KernelRfl
set_option linter.unusedVariables false
set_option linter.unusedSimpArgs false
namespace Go.Proofs.YtehbbcdhahnkgaaGreat.Hm
open Go
theorem ckKd : isBig (codeRT (Γw RA) (runM [eC] (Γw RA) LL 60) LL (seqs lA) t0.gs (endK (pTo tA [] [(2, .lit 0)] sA))) = true := by kernel_rfl
end Go.Proofs.YtehbbcdhahnkgaaGreat.Hm

namespace Go.Proofs.YtehbbcdhahnkgaaGreat.Hm
open Go
theorem ckKo : isSome0 ((runM [] (Γw R0) LL 45 p1476.f p1476.args p1476.n fun res ws nx => endR (entPC p1476 res ws nx)).run (fun _ => none) (preL p1476.pre)) = true := by kernel_rfl
end Go.Proofs.YtehbbcdhahnkgaaGreat.Hm

namespace Go.Proofs.YtehbbcdhahnkgaaGreat.Hm
open Go
theorem ckKp : isSome0 ((runM [] (Γw R0) LL 45 p2371.f p2371.args p2371.n fun res ws nx => endR (entPC p2371 res ws nx)).run (fun _ => none) (preL p2371.pre)) = true := by kernel_rfl
end Go.Proofs.YtehbbcdhahnkgaaGreat.Hm
