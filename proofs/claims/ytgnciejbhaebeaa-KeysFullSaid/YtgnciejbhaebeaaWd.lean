/- Words of 32 bits as values that the walk does not look into, and what the program's operations do with them. Conditions: none. -/
import Derived.Test.YtgnciejbhaebeaaBase
namespace Go.Proofs.Ytgnciejbhaebeaa
open Go Go.RowKit

/-- A word as a value; the walk does not look into it. -/
def wv (x : BitVec 32) : Value := .int .u32 (x.toNat : Int)

theorem wrap_bv (r : BitVec 32) : IntKind.u32.wrap ((r.toNat : Nat) : Int) = (r.toNat : Int) := by
  have := r.isLt
  simp only [IntKind.wrap_u32]; omega
theorem ofInt_bv (x : BitVec 32) : BitVec.ofInt 32 ((x.toNat : Nat) : Int) = x := by
  rw [BitVec.ofInt_natCast]; simp

theorem wv_add (t : TypeId) (x y : BitVec 32) : binOp .add t (wv x) (wv y) = pure (wv (x + y)) := by
  simp only [wv, binOp, Op.intArith, ne_eq, not_true_eq_false, if_false]
  congr 2
theorem wv_sub (t : TypeId) (x y : BitVec 32) : binOp .sub t (wv x) (wv y) = pure (wv (x - y)) := by
  have h1 := x.isLt
  have h2 := y.isLt
  simp only [wv, binOp, Op.intArith, ne_eq, not_true_eq_false, if_false]
  congr 2
  rw [IntKind.wrap_u32, BitVec.toNat_sub]; omega
theorem wv_mul (t : TypeId) (x y : BitVec 32) : binOp .mul t (wv x) (wv y) = pure (wv (x * y)) := by
  simp only [wv, binOp, Op.intArith, ne_eq, not_true_eq_false, if_false]
  congr 2
theorem wv_xor (t : TypeId) (x y : BitVec 32) : binOp .xor t (wv x) (wv y) = pure (wv (x ^^^ y)) := by
  simp only [wv, binOp, Op.intBits, ne_eq, not_true_eq_false, if_false]
  show pure (Value.int .u32 (IntKind.u32.wrap (((BitVec.ofInt 32 (x.toNat : Int) ^^^ BitVec.ofInt 32 (y.toNat : Int)).toNat : Nat) : Int))) = _
  rw [ofInt_bv, ofInt_bv, wrap_bv]
theorem wv_and (t : TypeId) (x y : BitVec 32) : binOp .and t (wv x) (wv y) = pure (wv (x &&& y)) := by
  simp only [wv, binOp, Op.intBits, ne_eq, not_true_eq_false, if_false]
  show pure (Value.int .u32 (IntKind.u32.wrap (((BitVec.ofInt 32 (x.toNat : Int) &&& BitVec.ofInt 32 (y.toNat : Int)).toNat : Nat) : Int))) = _
  rw [ofInt_bv, ofInt_bv, wrap_bv]
theorem wv_or (t : TypeId) (x y : BitVec 32) : binOp .or t (wv x) (wv y) = pure (wv (x ||| y)) := by
  simp only [wv, binOp, Op.intBits, ne_eq, not_true_eq_false, if_false]
  show pure (Value.int .u32 (IntKind.u32.wrap (((BitVec.ofInt 32 (x.toNat : Int) ||| BitVec.ofInt 32 (y.toNat : Int)).toNat : Nat) : Int))) = _
  rw [ofInt_bv, ofInt_bv, wrap_bv]
theorem wv_shr (t : TypeId) (x : BitVec 32) (k : IntKind) (n : Int) (h0 : 0 ≤ n) (h1 : n ≤ 32) : binOp .shr t (wv x) (.int k n) = pure (wv (x >>> n.toNat)) := by
  obtain ⟨m, rfl⟩ := Int.eq_ofNat_of_zero_le h0
  simp only [wv, binOp, Op.shift, Int.toNat_natCast]
  rw [if_neg (by omega)]
  congr 2
  rw [BitVec.toNat_ushiftRight, Nat.shiftRight_eq_div_pow, show min m IntKind.u32.bits = m from Nat.min_eq_left (by show m ≤ 32; omega)]
  rw [show ((2 : Int) ^ m) = ((2 ^ m : Nat) : Int) by rw [Int.natCast_pow]; rfl, Int.ofNat_fdiv]
theorem wv_shl (t : TypeId) (x : BitVec 32) (k : IntKind) (n : Int) (h0 : 0 ≤ n) (h1 : n ≤ 32) : binOp .shl t (wv x) (.int k n) = pure (wv (x <<< n.toNat)) := by
  obtain ⟨m, rfl⟩ := Int.eq_ofNat_of_zero_le h0
  simp only [wv, binOp, Op.shift, Int.toNat_natCast]
  rw [if_neg (by omega)]
  congr 2
  rw [BitVec.toNat_shiftLeft, Nat.shiftLeft_eq, show min m IntKind.u32.bits = m from Nat.min_eq_left (by show m ≤ 32; omega)]
  rw [show ((2 : Int) ^ m) = ((2 ^ m : Nat) : Int) by rw [Int.natCast_pow]; rfl, ← Int.natCast_mul, IntKind.wrap_u32]
  generalize x.toNat * 2 ^ m = q
  omega

theorem wv_not (x : BitVec 32) : Op.unary .xor (wv x) = pure (wv (~~~x)) := by
  simp only [wv, Op.unary, Op.intBits]
  show pure (Value.int .u32 (IntKind.u32.wrap (((BitVec.ofInt 32 4294967295 ^^^ BitVec.ofInt 32 (x.toNat : Int)).toNat : Nat) : Int))) = _
  rw [ofInt_bv, wrap_bv, show BitVec.ofInt 32 4294967295 = BitVec.allOnes 32 from rfl, BitVec.allOnes_xor]
theorem wv_store (P : Program) (w : World) (a : Addr) (m : Mode) (x : BitVec 32) : (store a (wv x) m).run P w = stored P w a (wv x) m := run_store P w a _ m rfl
theorem bv_store (P : Program) (w : World) (a : Addr) (m : Mode) (x : UInt8) : (store a (bv x) m).run P w = stored P w a (bv x) m := run_store P w a _ m rfl
theorem wv_cells (a : Addr) (i : Nat) (x : BitVec 32) (rest : List Value) : storeCells a (wv x :: rest) i = (do store (a.add i) (wv x); storeCells a rest (i + 1)) := rfl
theorem bv_cells (a : Addr) (i : Nat) (x : UInt8) (rest : List Value) : storeCells a (bv x :: rest) i = (do store (a.add i) (bv x); storeCells a rest (i + 1)) := rfl
theorem wv_cellsOf (x : BitVec 32) : (wv x).cells = #[wv x] := rfl
theorem bv_cellsOf (x : UInt8) : (bv x).cells = #[bv x] := rfl
theorem no_cells (a : Addr) (i : Nat) : storeCells a [] i = pure () := rfl
/-- A byte as a word, a word's lowest byte. -/
def bw (b : UInt8) : BitVec 32 := b.toBitVec.setWidth 32
def wb (x : BitVec 32) : UInt8 := ⟨x.setWidth 8⟩
theorem bv_conv (w : World) (b : UInt8) : (convert 5 166 (bv b)).run Try.prog w = .ok (wv (bw b)) w := by
  have h := b.toNat_lt
  have e := run_convert_int (P := Try.prog) w 5 166 .u8 (b.toNat : Int) (by rw [Try.underlying5]; rfl) (by kernel_rfl)
  rw [show Try.prog.intKind 166 = .u32 by kernel_rfl] at e
  unfold bv
  rw [e, IntWalk.u32_in _ ⟨by omega, by omega⟩]
  unfold wv bw
  rw [BitVec.toNat_setWidth, UInt8.toNat_toBitVec, Nat.mod_eq_of_lt (by omega)]
theorem wv_conv (w : World) (x : BitVec 32) : (convert 166 5 (wv x)).run Try.prog w = .ok (bv (wb x)) w := by
  have e := run_convert_int (P := Try.prog) w 166 5 .u32 (x.toNat : Int) (by rw [Try.underlying166]; rfl) (by kernel_rfl)
  rw [show Try.prog.intKind 5 = .u8 by kernel_rfl] at e
  unfold wv
  rw [e]
  unfold bv wb
  congr 2
end Go.Proofs.Ytgnciejbhaebeaa
