/- The ghost machine: an evaluator of the program's text over plain data, and its soundness. -/
import Derived.Test.YtehbbcdhahnkgaaGreatHmTrD
import Derived.KernelRfl
set_option linter.unusedVariables false
set_option linter.unusedSimpArgs false
namespace Go.Proofs.YtehbbcdhahnkgaaGreat.Hm
open Go
theorem ckKa : isFin (runM [] (Γw R0) LL 40 eA.f eA.args eA.n fun res ws nx => endR (entC eA eAs res ws nx)) = true := by kernel_rfl
end Go.Proofs.YtehbbcdhahnkgaaGreat.Hm

namespace Go.Proofs.YtehbbcdhahnkgaaGreat.Hm
open Go
theorem ckKb : isFin (runM [] (Γw R0) LL 40 eB.f eB.args eB.n fun res ws nx => endR (entC eB eBs res ws nx)) = true := by kernel_rfl
end Go.Proofs.YtehbbcdhahnkgaaGreat.Hm

namespace Go.Proofs.YtehbbcdhahnkgaaGreat.Hm
open Go
theorem ckKc : isFin (runP [p1036, p1476, p2371] [eA, eB] (Γw R0) LL 50 eC.f eC.args eC.n fun res ws nx => endR (entC eC eCs res ws nx)) = true := by kernel_rfl
end Go.Proofs.YtehbbcdhahnkgaaGreat.Hm

namespace Go.Proofs.YtehbbcdhahnkgaaGreat.Hm
open Go
theorem ckKn : isSome0 ((runM [] (Γw R0) LL 45 p1036.f p1036.args p1036.n fun res ws nx => endR (entPC p1036 res ws nx)).run (fun _ => none) (preL p1036.pre)) = true := by kernel_rfl
end Go.Proofs.YtehbbcdhahnkgaaGreat.Hm
