/- What every walk of this program names: the slices of bytes. -/
import Derived.Test.YtndnojbpapjdoaaDoorWord
import Derived.Test.YtndnojbpapjdoaaDoorProg
set_option linter.unusedSimpArgs false
set_option linter.unusedVariables false
set_option linter.unusedSectionVars false
namespace Go.Proofs.YtndnojbpapjdoaaDoor
open Go.Sp Go.RowKit
theorem info5b : (Tryd.prog.info? 5).map (fun i => (i.zero, i.size, i.bytes)) = some (some (.int .u8 0), 1, 1) := by kernel_rfl
theorem sl22 : SliceT Tryd.prog 22 5 1 1 := .mk Tryd.underlying22 info5b rfl
end Go.Proofs.YtndnojbpapjdoaaDoor
