/- The ghost machine: an evaluator of the program's text over plain data, and its soundness. -/
import Derived.Test.YtehbbcdhahnkgaaGreatHmMvD
import Derived.KernelRfl
set_option linter.unusedVariables false
set_option linter.unusedSimpArgs false
namespace Go.Proofs.YtehbbcdhahnkgaaGreat.Hm
open Go
theorem kSp202_ck : isSome0 ((runM [] (Γw R8) LL 45 kSp202.f kSp202.args kSp202.n fun res ws nx => endR (entPC kSp202 res ws nx)).run (fun _ => none) (preL kSp202.pre)) = true := by kernel_rfl
end Go.Proofs.YtehbbcdhahnkgaaGreat.Hm

namespace Go.Proofs.YtehbbcdhahnkgaaGreat.Hm
open Go
theorem kS_ck : isBig (codeRT (Γw R8) (runP [kSp202] [] (Γw R8) LL 60) LL (seqs lR) tS.gs (endK (pS tT s7 r3 kv3 [] 0))) = true := by kernel_rfl
end Go.Proofs.YtehbbcdhahnkgaaGreat.Hm

namespace Go.Proofs.YtehbbcdhahnkgaaGreat.Hm
open Go
theorem kDp202_ck : isSome0 ((runM [] (Γw R9) LL 45 kDp202.f kDp202.args kDp202.n fun res ws nx => endR (entPC kDp202 res ws nx)).run (fun _ => none) (preL kDp202.pre)) = true := by kernel_rfl
end Go.Proofs.YtehbbcdhahnkgaaGreat.Hm

namespace Go.Proofs.YtehbbcdhahnkgaaGreat.Hm
open Go
theorem kDp846_ck : isSome0 ((runM [] (Γw R9) LL 45 kDp846.f kDp846.args kDp846.n fun res ws nx => endR (entPC kDp846 res ws nx)).run (fun _ => none) (preL kDp846.pre)) = true := by kernel_rfl
end Go.Proofs.YtehbbcdhahnkgaaGreat.Hm

namespace Go.Proofs.YtehbbcdhahnkgaaGreat.Hm
open Go
theorem kD_ck : isBig (codeRT (Γw R9) (runP [kDp202, kDp846] [] (Γw R9) LL 60) LL (seqs lR) tH.gs (endK (pS tT s8 r4 kv4 [] 0))) = true := by kernel_rfl
end Go.Proofs.YtehbbcdhahnkgaaGreat.Hm
