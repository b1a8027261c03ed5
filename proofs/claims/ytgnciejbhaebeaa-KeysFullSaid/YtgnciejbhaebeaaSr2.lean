/- What the reference's block answers. Conditions: eight words, 64 bytes. -/
import Derived.Test.YtgnciejbhaebeaaSr1
import Derived.Deep.RegionHeld3
namespace Go.Proofs.Ytgnciejbhaebeaa
open Go Go.RowKit
attribute [local go_sem] wv_add wv_xor wv_and wv_or wv_shr wv_shl wv_store bv_store bv_conv wv_conv wv_cells bv_cells no_cells wv_cellsOf bv_cellsOf wv_mul24 wv_mul16 wv_mul8 wv_subc

end Go.Proofs.Ytgnciejbhaebeaa
