/- What the reference's turned, root and block answer. Conditions: eight words, 64 bytes. -/
import Derived.Test.YtgnciejbhaebeaaSh3
import Derived.Test.YtgnciejbhaebeaaSp
namespace Go.Proofs.Ytgnciejbhaebeaa
open Go Go.RowKit

theorem c24 : Value.int .u32 16777216 = wv (BitVec.twoPow 32 24) := by kernel_rfl
theorem c16 : Value.int .u32 65536 = wv (BitVec.twoPow 32 16) := by kernel_rfl
theorem c8 : Value.int .u32 256 = wv (BitVec.twoPow 32 8) := by kernel_rfl
theorem cFF : Value.int .u32 4294967295 = wv (BitVec.allOnes 32) := by kernel_rfl
theorem wv_mul24 (t : TypeId) (x : BitVec 32) : binOp .mul t (wv x) (.int .u32 16777216) = pure (wv (x <<< 24)) := by
  rw [c24, wv_mul, BitVec.mul_twoPow_eq_shiftLeft]
theorem wv_mul16 (t : TypeId) (x : BitVec 32) : binOp .mul t (wv x) (.int .u32 65536) = pure (wv (x <<< 16)) := by
  rw [c16, wv_mul, BitVec.mul_twoPow_eq_shiftLeft]
theorem wv_mul8 (t : TypeId) (x : BitVec 32) : binOp .mul t (wv x) (.int .u32 256) = pure (wv (x <<< 8)) := by
  rw [c8, wv_mul, BitVec.mul_twoPow_eq_shiftLeft]
theorem not_all (x : BitVec 32) : BitVec.allOnes 32 - x = ~~~x := by
  apply BitVec.eq_of_toNat_eq
  have := x.isLt
  rw [BitVec.toNat_sub, BitVec.toNat_not, BitVec.toNat_allOnes]
  omega
theorem wv_subc (t : TypeId) (x : BitVec 32) : binOp .sub t (.int .u32 4294967295) (wv x) = pure (wv (~~~x)) := by
  rw [cFF, wv_sub, not_all]
theorem wv_quo (t : TypeId) (x : BitVec 32) (k : Nat) (n : Int) (hn : n = ((2 ^ k : Nat) : Int)) : binOp .quo t (wv x) (.int .u32 n) = pure (wv (x >>> k)) := by
  subst hn
  have h2 : 0 < 2 ^ k := Nat.pow_pos (by decide)
  have hx := x.isLt
  simp only [wv, binOp, Op.intArith, ne_eq, not_true_eq_false, if_false]
  unfold Op.intDiv
  rw [if_neg (by omega)]
  simp only
  congr 2
  rw [← Int.ofNat_tdiv, BitVec.toNat_ushiftRight, Nat.shiftRight_eq_div_pow]
  have h3 : x.toNat / 2 ^ k ≤ x.toNat := Nat.div_le_self _ _
  generalize x.toNat / 2 ^ k = q at h3
  simp only [IntKind.wrap_u32]
  omega
theorem wv_quo24 (t : TypeId) (x : BitVec 32) : binOp .quo t (wv x) (.int .u32 16777216) = pure (wv (x >>> 24)) := wv_quo t x 24 _ (by decide)
theorem wv_quo16 (t : TypeId) (x : BitVec 32) : binOp .quo t (wv x) (.int .u32 65536) = pure (wv (x >>> 16)) := wv_quo t x 16 _ (by decide)
theorem wv_quo8 (t : TypeId) (x : BitVec 32) : binOp .quo t (wv x) (.int .u32 256) = pure (wv (x >>> 8)) := wv_quo t x 8 _ (by decide)

theorem bw_bit (b : UInt8) (i : Nat) (h : 8 ≤ i) : (bw b).getLsbD i = false := by
  unfold bw
  rw [BitVec.getLsbD_setWidth, BitVec.getLsbD_of_ge _ _ h]; simp
theorem shl_or (x : BitVec 32) (b : UInt8) (k : Nat) (h : ∀ i, i < k + 8 → x.getLsbD i = false) : x + bw b <<< k = x ||| bw b <<< k := by
  refine BitVec.add_eq_or_of_and_eq_zero _ _ ?_
  apply BitVec.eq_of_getLsbD_eq
  intro i hi
  rw [BitVec.getLsbD_and, BitVec.getLsbD_shiftLeft]
  by_cases h1 : i < k + 8
  · rw [h i h1]; simp
  · rw [bw_bit b (i - k) (by omega)]; simp
theorem shl_bit (b : UInt8) (k i : Nat) (h : i < k) : (bw b <<< k).getLsbD i = false := by
  rw [BitVec.getLsbD_shiftLeft]; simp [h]
theorem be4_sum (b0 b1 b2 b3 : UInt8) : bw b0 <<< 24 + bw b1 <<< 16 + bw b2 <<< 8 + bw b3 = bw b0 <<< 24 ||| bw b1 <<< 16 ||| bw b2 <<< 8 ||| bw b3 := by
  rw [shl_or (bw b0 <<< 24) b1 16 (fun i h => shl_bit _ _ _ h)]
  rw [shl_or _ b2 8 (fun i h => by rw [BitVec.getLsbD_or, shl_bit _ _ _ (by omega), shl_bit _ _ _ (by omega)]; rfl)]
  have := shl_or (bw b0 <<< 24 ||| bw b1 <<< 16 ||| bw b2 <<< 8) b3 0 (fun i h => by rw [BitVec.getLsbD_or, BitVec.getLsbD_or, shl_bit _ _ _ (by omega), shl_bit _ _ _ (by omega), shl_bit _ _ _ (by omega)]; rfl)
  rw [BitVec.shiftLeft_zero] at this
  exact this

attribute [local go_sem] wv_add wv_xor wv_and wv_or wv_shr wv_shl wv_store bv_store bv_conv wv_conv wv_cells bv_cells no_cells wv_cellsOf bv_cellsOf wv_mul24 wv_mul16 wv_mul8 wv_subc

def rootV : List (Nat × Value) := rootL.zipIdx.map fun (x, i) => (i, .int .u32 (x.toNat : Int))
theorem rootL_len : rootL.length = 64 := rfl
theorem zero64_len : (List.replicate 64 (0 : BitVec 32)).length = 64 := rfl

end Go.Proofs.Ytgnciejbhaebeaa
