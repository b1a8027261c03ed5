/- What the reference's Sum answers: the same as sha.Sum. Conditions: the parts' lengths fit. -/
import Derived.Test.YtgnciejbhaebeaaSr2
import Derived.Test.YtgnciejbhaebeaaSr3
import Derived.Test.YtgnciejbhaebeaaSt
namespace Go.Proofs.Ytgnciejbhaebeaa
open Go Go.RowKit
attribute [local go_sem] wv_store bv_store bv_conv wv_conv wv_cells bv_cells no_cells wv_cellsOf bv_cellsOf wv_quo24 wv_quo16 wv_quo8

theorem outP_four (h : List (BitVec 32)) (t : Nat) :
    (((((outP h (4 * t)).set (4 * t) (wb (getW h t >>> 24))).set (4 * t + 1) (wb (getW h t >>> 16))).set (4 * t + 2) (wb (getW h t >>> 8))).set (4 * t + 3) (wb (getW h t))) = outP h (4 * (t + 1)) := by
  rw [show 4 * (t + 1) = 4 * t + 1 + 1 + 1 + 1 by omega]
  simp only [outP, outB]
  rw [show 4 * t / 4 = t by omega, show (4 * t + 1) / 4 = t by omega, show (4 * t + 1 + 1) / 4 = t by omega, show (4 * t + 1 + 1 + 1) / 4 = t by omega]
  rw [show 24 - 8 * (4 * t % 4) = 24 by omega, show 24 - 8 * ((4 * t + 1) % 4) = 16 by omega, show 24 - 8 * ((4 * t + 1 + 1) % 4) = 8 by omega, show 24 - 8 * ((4 * t + 1 + 1 + 1) % 4) = 0 by omega]
  rw [BitVec.ushiftRight_zero]
theorem ownsNew (w : World) (o : Obj) : OwnB ((w.alloc o).alloc (.cells #[] 5)) (w.heap.size + 1) (.slice (some ⟨w.heap.size + 1, 0, none⟩) 0 0) ([] : List UInt8) := by
  have h : OwnB ((w.alloc o).alloc (.cells #[] 5)) (w.heap.size + 1) (.slice (some ⟨(w.alloc o).heap.size, 0, none⟩) 0 0) ([] : List UInt8) := World.ownsRow_made (w.alloc o) #[] 0 (by simp) (Nat.zero_le _) rfl
  rw [World.size_alloc] at h
  exact h
end Go.Proofs.Ytgnciejbhaebeaa
