/- A datagram in plain lists: what is laid, peeked at and opened. Conditions: none. -/
import Derived.Test.YtecmkdoodlpanaaDoorMp
import Derived.Test.YtecmkdoodlpanaaDoorPl2
namespace Go.Proofs.YtecmkdoodlpanaaDoor
open Go Go.RowKit

/-- A header. -/
structure Hd where
  k : Nat
  d : Bool
  e : Nat
  q : Nat
def Hd.V (h : Hd) : Value := .agg #[.int .u8 (h.k : Int), .bool h.d, .int .u32 (h.e : Int), .int .u64 (h.q : Int)]
def Hd.ok (h : Hd) : Prop := h.k < 256 ∧ h.e < 4294967296 ∧ U64 h.q
def hd0 : Hd := ⟨0, false, 0, 0⟩
def mayB (h : Hd) : Bool := decide (1 ≤ h.k ∧ h.k ≤ 5 ∧ h.e ≤ 1048576 ∧ h.q ≤ 4611686018427387904)
def headL (h : Hd) : List UInt8 := [lo h.k, if h.d then 1 else 0] ++ numL h.e 4 ++ numL h.q 8
theorem headL_len (h : Hd) : (headL h).length = 14 := by simp [headL, numL_length]
def tagL (key b : List UInt8) : List UInt8 := (sumL (codeB key b)).take 16
theorem tagL_len (key b : List UInt8) : (tagL key b).length = 16 := by rw [tagL, List.length_take, sumL_len]; rfl
def sealR (key : List UInt8) (h : Hd) (body : List UInt8) : List UInt8 × Nat :=
  if mayB h = true then (if body.length ≤ 512 then (headL h ++ body ++ tagL key (headL h ++ body), 0) else ([], 4)) else ([], 1)
def hdOf (b : List UInt8) : Hd := ⟨(getB b 0).toNat, getB b 1 == 1, beN ((b.drop 2).take 4), beN ((b.drop 6).take 8)⟩
theorem hdOf_ok (b : List UInt8) : (hdOf b).ok := by
  refine ⟨UInt8.toNat_lt _, ?_, ?_⟩
  · have := beN_lt ((b.drop 2).take 4)
    have h2 : ((b.drop 2).take 4).length ≤ 4 := by rw [List.length_take]; omega
    exact Nat.lt_of_lt_of_le this (Nat.le_trans (Nat.pow_le_pow_right (by decide) h2) (by decide))
  · exact beN_u64 (by rw [List.length_take]; omega)
def peekR (b : List UInt8) : Hd × Nat :=
  if b.length < 30 then (hd0, 2) else if 542 < b.length then (hd0, 4) else if 1 < (getB b 1).toNat ∨ mayB (hdOf b) = false then (hd0, 3) else (hdOf b, 0)
def openR (key b : List UInt8) : Hd × List UInt8 × Nat :=
  if (peekR b).2 ≠ 0 then (hd0, [], (peekR b).2)
  else if tagL key (b.take (b.length - 16)) = b.drop (b.length - 16) then ((peekR b).1, (b.drop 14).take (b.length - 30), 0) else (hd0, [], 8)
end Go.Proofs.YtecmkdoodlpanaaDoor
