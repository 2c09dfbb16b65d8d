/- The ghost machine: an evaluator of the program's text over plain data, and its soundness. -/
import Derived.Test.YtehbbcdhahnkgaaGreatHmTrD
import Derived.KernelRfl
set_option linter.unusedVariables false
set_option linter.unusedSimpArgs false
namespace Go.Proofs.YtehbbcdhahnkgaaGreat.Hm
open Go
theorem ckKe : isBig (codeRT (Γw RL) (runM [] (Γw RL) LL 60) LL (seqs (flat bd)) tA.gs (endK (pTo tA [] [(2, .sym 2 1)] sL))) = true := by kernel_rfl
end Go.Proofs.YtehbbcdhahnkgaaGreat.Hm

namespace Go.Proofs.YtehbbcdhahnkgaaGreat.Hm
open Go
theorem ckKf : isBig (codeRT (Γw (Rr 0 89)) (runM [] (Γw (Rr 0 89)) LL 60) LL (seqs (flat bd)) tE.gs (endK (pX tE sE))) = true := by kernel_rfl
end Go.Proofs.YtehbbcdhahnkgaaGreat.Hm

namespace Go.Proofs.YtehbbcdhahnkgaaGreat.Hm
open Go
theorem ckKg : isBig (codeRT (Γw (Rr 0 89)) (runM [] (Γw (Rr 0 89)) LL 60) LL (seqs lB) tE.gs (endK (pTo tB [] [] sB))) = true := by kernel_rfl
end Go.Proofs.YtehbbcdhahnkgaaGreat.Hm

namespace Go.Proofs.YtehbbcdhahnkgaaGreat.Hm
open Go
theorem ckKh : isBig (codeRT (Γw (Rr 0 36)) (runP [p734, p1708] [] (Γw (Rr 0 36)) LL 60) LL (seqs lC) tB.gs (endK (pTo tC [] [] sC))) = true := by kernel_rfl
end Go.Proofs.YtehbbcdhahnkgaaGreat.Hm

namespace Go.Proofs.YtehbbcdhahnkgaaGreat.Hm
open Go
theorem ckKi : isBig (codeRT (Γw (Rr 37 89)) (runM [] (Γw (Rr 37 89)) LL 60) LL (seqs lC) tB.gs (endK (pTo tD [] [] sD))) = true := by kernel_rfl
end Go.Proofs.YtehbbcdhahnkgaaGreat.Hm

namespace Go.Proofs.YtehbbcdhahnkgaaGreat.Hm
open Go
theorem ckKj : isBig (codeRT (Γw (Rr 0 30)) (runM [] (Γw (Rr 0 30)) LL 60) LL (seqs lD) tC.gs (endK pT)) = true := by kernel_rfl
end Go.Proofs.YtehbbcdhahnkgaaGreat.Hm

namespace Go.Proofs.YtehbbcdhahnkgaaGreat.Hm
open Go
theorem ckKk : isBig (codeRT (Γw (Rr 31 36)) (runM [] (Γw (Rr 31 36)) LL 60) LL (seqs lD) tC.gs (endK pT)) = true := by kernel_rfl
end Go.Proofs.YtehbbcdhahnkgaaGreat.Hm

namespace Go.Proofs.YtehbbcdhahnkgaaGreat.Hm
open Go
theorem ckKl : isBig (codeRT (Γw (Rr 37 39)) (runM [] (Γw (Rr 37 39)) LL 60) LL (seqs lD) tD.gs (endK pT)) = true := by kernel_rfl
end Go.Proofs.YtehbbcdhahnkgaaGreat.Hm

namespace Go.Proofs.YtehbbcdhahnkgaaGreat.Hm
open Go
theorem ckKm : isBig (codeRT (Γw (Rr 40 89)) (runM [] (Γw (Rr 40 89)) LL 60) LL (seqs lD) tD.gs (endK pT)) = true := by kernel_rfl
end Go.Proofs.YtehbbcdhahnkgaaGreat.Hm

namespace Go.Proofs.YtehbbcdhahnkgaaGreat.Hm
open Go
theorem ckKq : isSome0 ((runM [] (Γw (Rr 0 36)) LL 45 p734.f p734.args p734.n fun res ws nx => endR (entPC p734 res ws nx)).run (fun _ => none) (preL p734.pre)) = true := by kernel_rfl
end Go.Proofs.YtehbbcdhahnkgaaGreat.Hm

namespace Go.Proofs.YtehbbcdhahnkgaaGreat.Hm
open Go
theorem ckKr : isSome0 ((runM [] (Γw (Rr 0 36)) LL 45 p1708.f p1708.args p1708.n fun res ws nx => endR (entPC p1708 res ws nx)).run (fun _ => none) (preL p1708.pre)) = true := by kernel_rfl
end Go.Proofs.YtehbbcdhahnkgaaGreat.Hm

namespace Go.Proofs.YtehbbcdhahnkgaaGreat.Hm
open Go
theorem ckKs : satC tE [(2, .sym 1 0)] [] sE tA.gs = true := by kernel_rfl
end Go.Proofs.YtehbbcdhahnkgaaGreat.Hm
