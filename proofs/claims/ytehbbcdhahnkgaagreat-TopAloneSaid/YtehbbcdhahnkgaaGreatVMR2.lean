/- What the machine makes of lines of the texts of rules. -/
import Derived.Test.YtehbbcdhahnkgaaGreatVMR0
import Derived.KernelRfl
set_option linter.all false
set_option maxRecDepth 100000
set_option maxHeartbeats 0
namespace Go.Proofs.YtehbbcdhahnkgaaGreat.Vm
open Go
theorem ln1:lz (D5.getD 1 ([],default)):=by unfold lz;kernel_rfl
theorem ln4:lz (D5.getD 4 ([],default)):=by unfold lz;kernel_rfl
theorem ln7:lz (D5.getD 7 ([],default)):=by unfold lz;kernel_rfl
theorem a0t:lz (D5.getD 10 ([],default)):=by unfold lz;kernel_rfl
theorem a0w:lz (D5.getD 13 ([],default)):=by unfold lz;kernel_rfl
end Go.Proofs.YtehbbcdhahnkgaaGreat.Vm
