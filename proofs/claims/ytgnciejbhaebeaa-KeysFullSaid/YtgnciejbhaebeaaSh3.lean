/- What sha.turn computes. Conditions: eight words, 64 bytes, the table stands. -/
import Derived.Test.YtgnciejbhaebeaaBw
import Derived.StillTailTactics
import Derived.Great.BuildSlice
namespace Go.Proofs.Ytgnciejbhaebeaa
open Go Go.RowKit
attribute [local go_sem] wv_add wv_sub wv_mul wv_xor wv_and wv_or wv_shr wv_shl wv_not wv_store bv_store bv_conv wv_conv wv_cells bv_cells no_cells wv_cellsOf bv_cellsOf

end Go.Proofs.Ytgnciejbhaebeaa
