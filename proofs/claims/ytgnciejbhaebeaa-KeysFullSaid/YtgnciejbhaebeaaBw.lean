/- Eight words built into an array. Conditions: none. -/
import Derived.Test.YtgnciejbhaebeaaSh2
import Derived.Great.BuildSlice
namespace Go.Proofs.Ytgnciejbhaebeaa
open Go Go.RowKit
theorem info_u32 : (Try.prog.info? 166).map (·.size) = some 1 := by kernel_rfl
end Go.Proofs.Ytgnciejbhaebeaa
