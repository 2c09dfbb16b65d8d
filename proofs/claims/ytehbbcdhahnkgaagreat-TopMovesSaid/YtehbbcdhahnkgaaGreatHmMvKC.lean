/- The ghost machine: an evaluator of the program's text over plain data, and its soundness. -/
import Derived.Test.YtehbbcdhahnkgaaGreatHmMvD
import Derived.KernelRfl
set_option linter.unusedVariables false
set_option linter.unusedSimpArgs false
namespace Go.Proofs.YtehbbcdhahnkgaaGreat.Hm
open Go
theorem kA_ck : isBig (codeRT (Γw R1) (runM [eC] (Γw R1) LL 60) LL (seqs lA) t0.gs (endK (pS tT s1 r1 kv1 hd1 0))) = true := by kernel_rfl
end Go.Proofs.YtehbbcdhahnkgaaGreat.Hm

namespace Go.Proofs.YtehbbcdhahnkgaaGreat.Hm
open Go
theorem kB_ck : isBig (codeRT (Γw R2) (runM [eC] (Γw R2) LL 60) LL (seqs lA) t0.gs (endK (pS tT s1 r1 kv2 hd1 0))) = true := by kernel_rfl
end Go.Proofs.YtehbbcdhahnkgaaGreat.Hm

namespace Go.Proofs.YtehbbcdhahnkgaaGreat.Hm
open Go
theorem kH0_ck : isBig (codeRT (Γw R3) (runM [] (Γw R3) LL 60) LL (seqs lH) tT.gs (endK (pS tH s2 r2 [] [] 0))) = true := by kernel_rfl
theorem kH3_ck : isBig (codeRT (Γw R6) (runM [] (Γw R6) LL 60) LL (seqs lH) tT.gs (endK (pS tH s5 r2 [] [] 0))) = true := by kernel_rfl
theorem kL_ck : isBig (codeRT (Γw R11) (runM [] (Γw R11) LL 60) LL (seqs lG) tL.gs (endK (pS tU [] r2 [] [] 2))) = true := by kernel_rfl
theorem ktP20p0e_ck : isBig (codeRT (Γw R13) (runM [] (Γw R13) LL 60) LL (seqs lE) tP20p0e.gs (endK pR)) = true := by kernel_rfl
theorem ktP21p0x_ck : isBig (codeRT (Γw R16) (runM [] (Γw R16) LL 60) LL (seqs lV) tP21p0.gs (endK (pS tP21p0e [] r9 [] [] 6))) = true := by kernel_rfl
theorem ktP21p1e_ck : isBig (codeRT (Γw R16) (runM [] (Γw R16) LL 60) LL (seqs lE) tP21p1e.gs (endK pR)) = true := by kernel_rfl
theorem ktP30p1x_ck : isBig (codeRT (Γw R13) (runM [] (Γw R13) LL 60) LL (seqs lV) tP30p1.gs (endK (pS tP30p1e [] r9 [] [] 6))) = true := by kernel_rfl
theorem ktP31p0e_ck : isBig (codeRT (Γw R16) (runM [] (Γw R16) LL 60) LL (seqs lE) tP31p0e.gs (endK pR)) = true := by kernel_rfl
theorem ktW_ck : ((pl 20 21).all fun p => isBig (codeRT (Γw R12) (runX p.1 [] [] [] (Γw R12) LL 60) LL (seqs lP) tW.gs (endK (pS tP p.2 r5 [] [] 0)))) = true := by kernel_rfl
theorem ktP30_ck : ((pl 22 23).all fun p => isBig (codeRT (Γw R12) (runX p.1 [] [] [] (Γw R12) LL 60) LL (seqs lP) tP30.gs (endK (pS tP30p p.2 r7 [] [] 0)))) = true := by kernel_rfl
theorem kTL_ck : satC tL s19 [] r2 tT.gs = true := by kernel_rfl
theorem kutW (f : Nat → Int) : satC tW (ups f) [] r2 tW.gs = true := by kernel_rfl
theorem kutP30 (f : Nat → Int) : satC tP30 (ups f) [] r15 tP30.gs = true := by kernel_rfl
theorem v00e0_0 : isFin (runM [] (Γw R19) LL 40 v00e0.f v00e0.args 0 fun res ws nx => endR (HV.like ⟨[], [], .lf, [], []⟩ v00e0.res res)) = true := by kernel_rfl
theorem v00e0_3 : isFin (runM [] (Γw R22) LL 40 v00e0.f v00e0.args 0 fun res ws nx => endR (HV.like ⟨[], [], .lf, [], []⟩ v00e0.res res)) = true := by kernel_rfl
theorem v00e1_2 : isFin (runM [] (Γw R21) LL 40 v00e1.f v00e1.args 0 fun res ws nx => endR (HV.like ⟨[], [], .lf, [], []⟩ v00e1.res res)) = true := by kernel_rfl
theorem v01e0_1 : isFin (runM [] (Γw R24) LL 40 v01e0.f v01e0.args 0 fun res ws nx => endR (HV.like ⟨[], [], .lf, [], []⟩ v01e0.res res)) = true := by kernel_rfl
theorem v01e1_0 : isFin (runM [] (Γw R23) LL 40 v01e1.f v01e1.args 0 fun res ws nx => endR (HV.like ⟨[], [], .lf, [], []⟩ v01e1.res res)) = true := by kernel_rfl
theorem v01e1_3 : isFin (runM [] (Γw R26) LL 40 v01e1.f v01e1.args 0 fun res ws nx => endR (HV.like ⟨[], [], .lf, [], []⟩ v01e1.res res)) = true := by kernel_rfl
theorem v10e0_2 : isFin (runM [] (Γw R29) LL 40 v10e0.f v10e0.args 0 fun res ws nx => endR (HV.like ⟨[], [], .lf, [], []⟩ v10e0.res res)) = true := by kernel_rfl
theorem v10e1_1 : isFin (runM [] (Γw R28) LL 40 v10e1.f v10e1.args 0 fun res ws nx => endR (HV.like ⟨[], [], .lf, [], []⟩ v10e1.res res)) = true := by kernel_rfl
theorem v11e0_0 : isFin (runM [] (Γw R31) LL 40 v11e0.f v11e0.args 0 fun res ws nx => endR (HV.like ⟨[], [], .lf, [], []⟩ v11e0.res res)) = true := by kernel_rfl
theorem v11e0_3 : isFin (runM [] (Γw R34) LL 40 v11e0.f v11e0.args 0 fun res ws nx => endR (HV.like ⟨[], [], .lf, [], []⟩ v11e0.res res)) = true := by kernel_rfl
theorem v11e1_2 : isFin (runM [] (Γw R33) LL 40 v11e1.f v11e1.args 0 fun res ws nx => endR (HV.like ⟨[], [], .lf, [], []⟩ v11e1.res res)) = true := by kernel_rfl
end Go.Proofs.YtehbbcdhahnkgaaGreat.Hm

namespace Go.Proofs.YtehbbcdhahnkgaaGreat.Hm
open Go
theorem kH1_ck : isBig (codeRT (Γw R4) (runM [] (Γw R4) LL 60) LL (seqs lH) tT.gs (endK (pS tH s3 r2 [] [] 0))) = true := by kernel_rfl
theorem kH4_ck : isBig (codeRT (Γw R7) (runM [] (Γw R7) LL 60) LL (seqs lH) tT.gs (endK (pS tH s6 r2 [] [] 0))) = true := by kernel_rfl
theorem kM_ck : isBig (codeRT (Γw R11) (runM [] (Γw R11) LL 60) LL (seqs lM) tU.gs (endK (pS tW s9 r2 [] [] 0))) = true := by kernel_rfl
theorem ktP20p1x_ck : isBig (codeRT (Γw R13) (runM [] (Γw R13) LL 60) LL (seqs lV) tP20p1.gs (endK (pS tP20p1e [] r9 [] [] 6))) = true := by kernel_rfl
theorem ktP21p0e_ck : isBig (codeRT (Γw R16) (runM [] (Γw R16) LL 60) LL (seqs lE) tP21p0e.gs (endK pR)) = true := by kernel_rfl
theorem ktP30p0x_ck : isBig (codeRT (Γw R13) (runM [] (Γw R13) LL 60) LL (seqs lV) tP30p0.gs (endK (pS tP30p0e [] r9 [] [] 6))) = true := by kernel_rfl
theorem ktP30p1e_ck : isBig (codeRT (Γw R13) (runM [] (Γw R13) LL 60) LL (seqs lE) tP30p1e.gs (endK pR)) = true := by kernel_rfl
theorem ktP31p1x_ck : isBig (codeRT (Γw R16) (runM [] (Γw R16) LL 60) LL (seqs lV) tP31p1.gs (endK (pS tP31p1e [] r13 [] [] 6))) = true := by kernel_rfl
theorem ktP20_ck : ((pl 22 23).all fun p => isBig (codeRT (Γw R12) (runX p.1 [] [] [] (Γw R12) LL 60) LL (seqs lP) tP20.gs (endK (pS tP20p p.2 r7 [] [] 0)))) = true := by kernel_rfl
theorem ktP31_ck : ((pl 22 23).all fun p => isBig (codeRT (Γw R12) (runX p.1 [] [] [] (Γw R12) LL 60) LL (seqs lP) tP31.gs (endK (pS tP31p p.2 r5 [] [] 0)))) = true := by kernel_rfl
theorem kT2_ck : satC tP2 s20 [] r14 tP.gs = true := by kernel_rfl
theorem kutP20 (f : Nat → Int) : satC tP20 (ups f) [] r15 tP20.gs = true := by kernel_rfl
theorem kutP31 (f : Nat → Int) : satC tP31 (ups f) [] r2 tP31.gs = true := by kernel_rfl
theorem v00e0_1 : isFin (runM [] (Γw R20) LL 40 v00e0.f v00e0.args 0 fun res ws nx => endR (HV.like ⟨[], [], .lf, [], []⟩ v00e0.res res)) = true := by kernel_rfl
theorem v00e1_0 : isFin (runM [] (Γw R19) LL 40 v00e1.f v00e1.args 0 fun res ws nx => endR (HV.like ⟨[], [], .lf, [], []⟩ v00e1.res res)) = true := by kernel_rfl
theorem v00e1_3 : isFin (runM [] (Γw R22) LL 40 v00e1.f v00e1.args 0 fun res ws nx => endR (HV.like ⟨[], [], .lf, [], []⟩ v00e1.res res)) = true := by kernel_rfl
theorem v01e0_2 : isFin (runM [] (Γw R25) LL 40 v01e0.f v01e0.args 0 fun res ws nx => endR (HV.like ⟨[], [], .lf, [], []⟩ v01e0.res res)) = true := by kernel_rfl
theorem v01e1_1 : isFin (runM [] (Γw R24) LL 40 v01e1.f v01e1.args 0 fun res ws nx => endR (HV.like ⟨[], [], .lf, [], []⟩ v01e1.res res)) = true := by kernel_rfl
theorem v10e0_0 : isFin (runM [] (Γw R27) LL 40 v10e0.f v10e0.args 0 fun res ws nx => endR (HV.like ⟨[], [], .lf, [], []⟩ v10e0.res res)) = true := by kernel_rfl
theorem v10e0_3 : isFin (runM [] (Γw R30) LL 40 v10e0.f v10e0.args 0 fun res ws nx => endR (HV.like ⟨[], [], .lf, [], []⟩ v10e0.res res)) = true := by kernel_rfl
theorem v10e1_2 : isFin (runM [] (Γw R29) LL 40 v10e1.f v10e1.args 0 fun res ws nx => endR (HV.like ⟨[], [], .lf, [], []⟩ v10e1.res res)) = true := by kernel_rfl
theorem v11e0_1 : isFin (runM [] (Γw R32) LL 40 v11e0.f v11e0.args 0 fun res ws nx => endR (HV.like ⟨[], [], .lf, [], []⟩ v11e0.res res)) = true := by kernel_rfl
theorem v11e1_0 : isFin (runM [] (Γw R31) LL 40 v11e1.f v11e1.args 0 fun res ws nx => endR (HV.like ⟨[], [], .lf, [], []⟩ v11e1.res res)) = true := by kernel_rfl
theorem v11e1_3 : isFin (runM [] (Γw R34) LL 40 v11e1.f v11e1.args 0 fun res ws nx => endR (HV.like ⟨[], [], .lf, [], []⟩ v11e1.res res)) = true := by kernel_rfl
end Go.Proofs.YtehbbcdhahnkgaaGreat.Hm

namespace Go.Proofs.YtehbbcdhahnkgaaGreat.Hm
open Go
theorem kH2_ck : isBig (codeRT (Γw R5) (runM [] (Γw R5) LL 60) LL (seqs lH) tT.gs (endK (pS tH s4 r2 [] [] 0))) = true := by kernel_rfl
theorem kX_ck : isBig (codeRT (Γw R10) (runM [] (Γw R10) LL 60) LL (seqs lH) tT.gs (endK (pS tU [] r2 [] [] 2))) = true := by kernel_rfl
theorem ktP20p0x_ck : isBig (codeRT (Γw R13) (runM [] (Γw R13) LL 60) LL (seqs lV) tP20p0.gs (endK (pS tP20p0e [] r9 [] [] 6))) = true := by kernel_rfl
theorem ktP20p1e_ck : isBig (codeRT (Γw R13) (runM [] (Γw R13) LL 60) LL (seqs lE) tP20p1e.gs (endK pR)) = true := by kernel_rfl
theorem ktP21p1x_ck : isBig (codeRT (Γw R16) (runM [] (Γw R16) LL 60) LL (seqs lV) tP21p1.gs (endK (pS tP21p1e [] r13 [] [] 6))) = true := by kernel_rfl
theorem ktP30p0e_ck : isBig (codeRT (Γw R13) (runM [] (Γw R13) LL 60) LL (seqs lE) tP30p0e.gs (endK pR)) = true := by kernel_rfl
theorem ktP31p0x_ck : isBig (codeRT (Γw R16) (runM [] (Γw R16) LL 60) LL (seqs lV) tP31p0.gs (endK (pS tP31p0e [] r9 [] [] 6))) = true := by kernel_rfl
theorem ktP31p1e_ck : isBig (codeRT (Γw R16) (runM [] (Γw R16) LL 60) LL (seqs lE) tP31p1e.gs (endK pR)) = true := by kernel_rfl
theorem ktP21_ck : ((pl 22 23).all fun p => isBig (codeRT (Γw R12) (runX p.1 [] [] [] (Γw R12) LL 60) LL (seqs lP) tP21.gs (endK (pS tP21p p.2 r5 [] [] 0)))) = true := by kernel_rfl
theorem kTS_ck : satC tS s18 [] r2 tH.gs = true := by kernel_rfl
theorem kT3_ck : satC tP3 s21 [] r14 tP.gs = true := by kernel_rfl
theorem kutP21 (f : Nat → Int) : satC tP21 (ups f) [] r2 tP21.gs = true := by kernel_rfl
theorem kuT (x y z : Int) : satC tT [(4, .lit x), (12, .lit y), (13, .lit z)] [] r2 tT.gs = true := by kernel_rfl
theorem v00e0_2 : isFin (runM [] (Γw R21) LL 40 v00e0.f v00e0.args 0 fun res ws nx => endR (HV.like ⟨[], [], .lf, [], []⟩ v00e0.res res)) = true := by kernel_rfl
theorem v00e1_1 : isFin (runM [] (Γw R20) LL 40 v00e1.f v00e1.args 0 fun res ws nx => endR (HV.like ⟨[], [], .lf, [], []⟩ v00e1.res res)) = true := by kernel_rfl
theorem v01e0_0 : isFin (runM [] (Γw R23) LL 40 v01e0.f v01e0.args 0 fun res ws nx => endR (HV.like ⟨[], [], .lf, [], []⟩ v01e0.res res)) = true := by kernel_rfl
theorem v01e0_3 : isFin (runM [] (Γw R26) LL 40 v01e0.f v01e0.args 0 fun res ws nx => endR (HV.like ⟨[], [], .lf, [], []⟩ v01e0.res res)) = true := by kernel_rfl
theorem v01e1_2 : isFin (runM [] (Γw R25) LL 40 v01e1.f v01e1.args 0 fun res ws nx => endR (HV.like ⟨[], [], .lf, [], []⟩ v01e1.res res)) = true := by kernel_rfl
theorem v10e0_1 : isFin (runM [] (Γw R28) LL 40 v10e0.f v10e0.args 0 fun res ws nx => endR (HV.like ⟨[], [], .lf, [], []⟩ v10e0.res res)) = true := by kernel_rfl
theorem v10e1_0 : isFin (runM [] (Γw R27) LL 40 v10e1.f v10e1.args 0 fun res ws nx => endR (HV.like ⟨[], [], .lf, [], []⟩ v10e1.res res)) = true := by kernel_rfl
theorem v10e1_3 : isFin (runM [] (Γw R30) LL 40 v10e1.f v10e1.args 0 fun res ws nx => endR (HV.like ⟨[], [], .lf, [], []⟩ v10e1.res res)) = true := by kernel_rfl
theorem v11e0_2 : isFin (runM [] (Γw R33) LL 40 v11e0.f v11e0.args 0 fun res ws nx => endR (HV.like ⟨[], [], .lf, [], []⟩ v11e0.res res)) = true := by kernel_rfl
theorem v11e1_1 : isFin (runM [] (Γw R32) LL 40 v11e1.f v11e1.args 0 fun res ws nx => endR (HV.like ⟨[], [], .lf, [], []⟩ v11e1.res res)) = true := by kernel_rfl
end Go.Proofs.YtehbbcdhahnkgaaGreat.Hm
