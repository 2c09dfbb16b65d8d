/- The ghost machine: an evaluator of the program's text over plain data, and its soundness. -/
import Derived.Test.YtehbbcdhahnkgaaGreatHmMvD
import Derived.KernelRfl
set_option linter.unusedVariables false
set_option linter.unusedSimpArgs false
namespace Go.Proofs.YtehbbcdhahnkgaaGreat.Hm
open Go
theorem ktP2w0_ck : isBig (codeRT (Γw R13) (runC c00 v00 [] (Γw R13) LL 60) LL (seqs lQ) tP2.gs (endK (pS tP20 [] r6 [] [] 0))) = true := by kernel_rfl
end Go.Proofs.YtehbbcdhahnkgaaGreat.Hm

namespace Go.Proofs.YtehbbcdhahnkgaaGreat.Hm
open Go
theorem ktP2w1_ck : isBig (codeRT (Γw R16) (runC c01 v01 [] (Γw R16) LL 60) LL (seqs lQ) tP2.gs (endK (pS tP21 [] r11 [] [] 0))) = true := by kernel_rfl
end Go.Proofs.YtehbbcdhahnkgaaGreat.Hm

namespace Go.Proofs.YtehbbcdhahnkgaaGreat.Hm
open Go
theorem ktP20pw0_ck : isBig (codeRT (Γw R14) (runC c10 v10 [] (Γw R14) LL 60) LL (seqs lQ) tP20p.gs (endK (pS tP20p0 [] r8 [] [] 0))) = true := by kernel_rfl
end Go.Proofs.YtehbbcdhahnkgaaGreat.Hm

namespace Go.Proofs.YtehbbcdhahnkgaaGreat.Hm
open Go
theorem ktP20pw1_ck : isBig (codeRT (Γw R15) (runC c11 v11 [] (Γw R15) LL 60) LL (seqs lQ) tP20p.gs (endK (pS tP20p1 [] r10 [] [] 0))) = true := by kernel_rfl
end Go.Proofs.YtehbbcdhahnkgaaGreat.Hm

namespace Go.Proofs.YtehbbcdhahnkgaaGreat.Hm
open Go
theorem ktP21pw0_ck : isBig (codeRT (Γw R17) (runC c10 v10 [] (Γw R17) LL 60) LL (seqs lQ) tP21p.gs (endK (pS tP21p0 [] r12 [] [] 0))) = true := by kernel_rfl
end Go.Proofs.YtehbbcdhahnkgaaGreat.Hm

namespace Go.Proofs.YtehbbcdhahnkgaaGreat.Hm
open Go
theorem ktP21pw1_ck : isBig (codeRT (Γw R18) (runC c11 v11 [] (Γw R18) LL 60) LL (seqs lQ) tP21p.gs (endK (pS tP21p1 [] r11 [] [] 0))) = true := by kernel_rfl
end Go.Proofs.YtehbbcdhahnkgaaGreat.Hm

namespace Go.Proofs.YtehbbcdhahnkgaaGreat.Hm
open Go
theorem ktP3w0_ck : isBig (codeRT (Γw R13) (runC c00 v00 [] (Γw R13) LL 60) LL (seqs lQ) tP3.gs (endK (pS tP30 [] r6 [] [] 0))) = true := by kernel_rfl
end Go.Proofs.YtehbbcdhahnkgaaGreat.Hm

namespace Go.Proofs.YtehbbcdhahnkgaaGreat.Hm
open Go
theorem ktP3w1_ck : isBig (codeRT (Γw R16) (runC c01 v01 [] (Γw R16) LL 60) LL (seqs lQ) tP3.gs (endK (pS tP31 [] r11 [] [] 0))) = true := by kernel_rfl
end Go.Proofs.YtehbbcdhahnkgaaGreat.Hm

namespace Go.Proofs.YtehbbcdhahnkgaaGreat.Hm
open Go
theorem ktP30pw0_ck : isBig (codeRT (Γw R14) (runC c10 v10 [] (Γw R14) LL 60) LL (seqs lQ) tP30p.gs (endK (pS tP30p0 [] r8 [] [] 0))) = true := by kernel_rfl
end Go.Proofs.YtehbbcdhahnkgaaGreat.Hm

namespace Go.Proofs.YtehbbcdhahnkgaaGreat.Hm
open Go
theorem ktP30pw1_ck : isBig (codeRT (Γw R15) (runC c11 v11 [] (Γw R15) LL 60) LL (seqs lQ) tP30p.gs (endK (pS tP30p1 [] r10 [] [] 0))) = true := by kernel_rfl
end Go.Proofs.YtehbbcdhahnkgaaGreat.Hm

namespace Go.Proofs.YtehbbcdhahnkgaaGreat.Hm
open Go
theorem ktP31pw0_ck : isBig (codeRT (Γw R17) (runC c10 v10 [] (Γw R17) LL 60) LL (seqs lQ) tP31p.gs (endK (pS tP31p0 [] r12 [] [] 0))) = true := by kernel_rfl
end Go.Proofs.YtehbbcdhahnkgaaGreat.Hm

namespace Go.Proofs.YtehbbcdhahnkgaaGreat.Hm
open Go
theorem ktP31pw1_ck : isBig (codeRT (Γw R18) (runC c11 v11 [] (Γw R18) LL 60) LL (seqs lQ) tP31p.gs (endK (pS tP31p1 [] r11 [] [] 0))) = true := by kernel_rfl
end Go.Proofs.YtehbbcdhahnkgaaGreat.Hm
