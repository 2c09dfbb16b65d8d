/- What the machine makes of lines of the texts of rules. -/
import Derived.Test.YtehbbcdhahnkgaaGreatVMR0
import Derived.KernelRfl
set_option linter.all false
set_option maxRecDepth 100000
set_option maxHeartbeats 0
namespace Go.Proofs.YtehbbcdhahnkgaaGreat.Vm
open Go
theorem ln0:lz (D5.getD 0 ([],default)):=by unfold lz;kernel_rfl
theorem ln3:lz (D5.getD 3 ([],default)):=by unfold lz;kernel_rfl
theorem ln6:lz (D5.getD 6 ([],default)):=by unfold lz;kernel_rfl
theorem ln9:lz (D5.getD 9 ([],default)):=by unfold lz;kernel_rfl
theorem a0v:lz (D5.getD 12 ([],default)):=by unfold lz;kernel_rfl
end Go.Proofs.YtehbbcdhahnkgaaGreat.Vm
