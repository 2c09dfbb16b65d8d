/- The ghost machine: an evaluator of the program's text over plain data, and its soundness. -/
import Derived.Test.YtehbbcdhahnkgaaGreatHmMvD
import Derived.KernelRfl
set_option linter.unusedVariables false
set_option linter.unusedSimpArgs false
namespace Go.Proofs.YtehbbcdhahnkgaaGreat.Hm
open Go
theorem eA_ck : isFin (runM [] (Γw R0) LL 40 eA.f eA.args eA.n fun res ws nx => endR (entC eA eAs res ws nx)) = true := by kernel_rfl
end Go.Proofs.YtehbbcdhahnkgaaGreat.Hm

namespace Go.Proofs.YtehbbcdhahnkgaaGreat.Hm
open Go
theorem eB_ck : isFin (runM [] (Γw R0) LL 40 eB.f eB.args eB.n fun res ws nx => endR (entC eB eBs res ws nx)) = true := by kernel_rfl
end Go.Proofs.YtehbbcdhahnkgaaGreat.Hm

namespace Go.Proofs.YtehbbcdhahnkgaaGreat.Hm
open Go
theorem eC_ck : isFin (runP [p1036, p1476, p2371] [eA, eB] (Γw R0) LL 50 eC.f eC.args eC.n fun res ws nx => endR (entC eC eCs res ws nx)) = true := by kernel_rfl
end Go.Proofs.YtehbbcdhahnkgaaGreat.Hm
