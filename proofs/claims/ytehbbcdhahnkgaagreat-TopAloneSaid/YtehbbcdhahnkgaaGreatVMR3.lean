/- What the machine makes of lines of the texts of rules. -/
import Derived.Test.YtehbbcdhahnkgaaGreatVMR0
import Derived.KernelRfl
set_option linter.all false
set_option maxRecDepth 100000
set_option maxHeartbeats 0
namespace Go.Proofs.YtehbbcdhahnkgaaGreat.Vm
open Go
theorem ln2:lz (D5.getD 2 ([],default)):=by unfold lz;kernel_rfl
theorem ln5:lz (D5.getD 5 ([],default)):=by unfold lz;kernel_rfl
theorem ln8:lz (D5.getD 8 ([],default)):=by unfold lz;kernel_rfl
theorem a0u:lz (D5.getD 11 ([],default)):=by unfold lz;kernel_rfl
end Go.Proofs.YtehbbcdhahnkgaaGreat.Vm
