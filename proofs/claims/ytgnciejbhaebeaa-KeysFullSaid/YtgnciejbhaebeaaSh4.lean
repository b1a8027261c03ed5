/- What sha.first and sha.Sum answer. Conditions: the table stands; the parts' lengths fit. -/
import Derived.Test.YtgnciejbhaebeaaSh3
import Derived.Test.YtgnciejbhaebeaaSp
namespace Go.Proofs.Ytgnciejbhaebeaa
open Go Go.RowKit
attribute [local go_sem] wv_add wv_sub wv_mul wv_xor wv_and wv_or wv_shr wv_shl wv_not wv_store bv_store bv_conv wv_conv wv_cells bv_cells no_cells wv_cellsOf bv_cellsOf

theorem zeros_8 : #[wv 0, wv 0, wv 0, wv 0, wv 0, wv 0, wv 0, wv 0] = ((List.replicate 8 (0 : BitVec 32)).map wv).toArray := rfl

theorem be8_val (n t : Nat) : Value.int .u8 ((n : Int) * 8 / 2 ^ (8 * t) % 256) = bv (lo8 (8 * n / 256 ^ t)) := by
  unfold bv
  rw [lo8_nat, show (256 : Nat) ^ t = 2 ^ (8 * t) by rw [Nat.pow_mul], Nat.mul_comm 8 n]
  congr 1
theorem zero8_len : (List.replicate 8 (0 : BitVec 32)).length = 8 := rfl
def sliceLen : Value → Nat
  | .slice _ n _ => n
  | _ => 0

end Go.Proofs.Ytgnciejbhaebeaa
