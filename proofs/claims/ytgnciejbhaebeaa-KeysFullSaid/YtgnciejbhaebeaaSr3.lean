/- What the reference's Padded answers. Conditions: the length fits. -/
import Derived.Test.YtgnciejbhaebeaaSp
namespace Go.Proofs.Ytgnciejbhaebeaa
open Go Go.RowKit

theorem be8_val2 (n t : Nat) (h : t ≤ 7) (s : Nat) (hs : s = 56 - 8 * t) : Value.int .u8 ((n : Int) * 8 / 2 ^ s % 256) = bv (lo8 (8 * n / 256 ^ (7 - t))) := by
  unfold bv
  rw [lo8_nat, show (256 : Nat) ^ (7 - t) = 2 ^ s by rw [hs, show 56 - 8 * t = 8 * (7 - t) by omega, Nat.pow_mul], Nat.mul_comm 8 n]
  congr 1
def sliceLen2 : Value → Nat
  | .slice _ n _ => n
  | _ => 0

end Go.Proofs.Ytgnciejbhaebeaa
