/- The sum in plain lists: padding, blocks one behind the other, the bytes of the words. Conditions: none. -/
import Derived.Test.YtgnciejbhaebeaaBw
namespace Go.Proofs.Ytgnciejbhaebeaa
open Go Go.RowKit

def lo8 (n : Nat) : UInt8 := UInt8.ofNat n
theorem lo8_nat (n : Nat) : (lo8 n).toNat = n % 256 := by simp [lo8]
def padZ (n : Nat) : Nat := (119 - n % 64) % 64
theorem padZ_le (n : Nat) : padZ n ≤ 63 := by unfold padZ; omega
/-- The length's bytes, k of them. -/
def be8 (n k : Nat) : List UInt8 := (List.range k).map fun i => lo8 (n / 256 ^ (7 - i))
theorem be8_len (n k : Nat) : (be8 n k).length = k := by simp [be8]
theorem be8_succ (n k : Nat) : be8 n (k + 1) = be8 n k ++ [lo8 (n / 256 ^ (7 - k))] := by simp [be8, List.range_succ]
def padHead (b : List UInt8) (z : Nat) : List UInt8 := b ++ [128] ++ List.replicate z 0
def padL (b : List UInt8) : List UInt8 := padHead b (padZ b.length) ++ be8 (8 * b.length) 8
theorem padHead_len (b : List UInt8) (z : Nat) : (padHead b z).length = b.length + 1 + z := by simp [padHead]; omega
theorem padHead_succ (b : List UInt8) (z : Nat) : padHead b (z + 1) = padHead b z ++ [0] := by
  simp [padHead, List.replicate_succ']
theorem padL_len (b : List UInt8) : (padL b).length = b.length + 1 + padZ b.length + 8 := by simp [padL, padHead_len, be8_len]
theorem padL_mod (b : List UInt8) : (padL b).length % 64 = 0 := by rw [padL_len]; unfold padZ; omega
def blocksN (h : List (BitVec 32)) (l : List UInt8) : Nat → List (BitVec 32)
  | 0 => h
  | n + 1 => blocksN (blk h (l.take 64)) (l.drop 64) n
theorem blocksN_len (h : List (BitVec 32)) (l : List UInt8) (hh : h.length = 8) : ∀ n, (blocksN h l n).length = 8
  | 0 => hh
  | n + 1 => blocksN_len (blk h (l.take 64)) (l.drop 64) (blk_len _ _ hh) n
def outB (h : List (BitVec 32)) (i : Nat) : UInt8 := wb (getW h (i / 4) >>> (24 - 8 * (i % 4)))
def outP (h : List (BitVec 32)) : Nat → List UInt8
  | 0 => List.replicate 32 0
  | k + 1 => (outP h k).set k (outB h k)
theorem outP_len (h : List (BitVec 32)) : ∀ k, (outP h k).length = 32
  | 0 => by simp [outP]
  | k + 1 => by simp [outP, outP_len h k]
def hashL (l : List UInt8) : List (BitVec 32) := blocksN startL l (l.length / 64)
def sumL (b : List UInt8) : List UInt8 := outP (hashL (padL b)) 32
theorem sumL_len (b : List UInt8) : (sumL b).length = 32 := outP_len _ _
theorem startL_len : startL.length = 8 := rfl

/-- Block g holds the bytes l and nothing else. -/
def Bs (w : World) (g : Nat) (t : TypeId) (l : List UInt8) : Prop := w.heap[g]? = some (.cells (l.map bv).toArray t (0, 0))
section
variable {w w' : World} {g : Nat} {t : TypeId} {l : List UInt8}
theorem Bs.cell (h : Bs w g t l) (i : Nat) (hi : i < l.length) : w.cell? ⟨g, i, none⟩ = some (bv (getB l i)) := by
  rw [heap_cell h]
  simp [getB, List.getD, hi]
theorem Bs.free (h : Bs w g t l) (i : Nat) : w.frozen? ⟨g, i, none⟩ = false := heap_free h i
theorem Bs.set (h : Bs w g t l) (i : Nat) (x : UInt8) : Bs (w.setCell ⟨g, i, none⟩ (bv x)) g t (l.set i x) := by
  unfold Bs
  rw [heap_set h, List.map_set]
  simp
theorem Bs.far (h : Bs w g t l) {p : Addr} (u : Value) (hp : g ≠ p.block) : Bs (w.setCell p u) g t l := (heap_far u hp).trans h
theorem Bs.lt (h : Bs w g t l) : g < w.heap.size := heap_lt h
theorem Bs.below (h : Bs w g t l) (hb : Below w.heap.size w w') : Bs w' g t l := (hb.block g h.lt).trans h
theorem Bs.grown (h : Bs w g t l) {r : Option Nat} (hb : w.grownBy w' r) (hr : r ≠ some g) : Bs w' g t l := (hb.block g h.lt (fun e => hr e.symm)).trans h
theorem Bs.drewN (h : Bs w g t l) (n : Nat) : Bs (w.drewN n) g t l := h
theorem Bs.alloc (h : Bs w g t l) (o : Obj) : Bs (w.alloc o) g t l := (Below.heap_alloc w o g h.lt).trans h
end
theorem Ws.grown {w w' : World} {g : Nat} {t : TypeId} {l : List (BitVec 32)} (h : Ws w g t l) {r : Option Nat} (hb : w.grownBy w' r) (hr : r ≠ some g) : Ws w' g t l := (hb.block g h.lt (fun e => hr e.symm)).trans h

/-- The address reads as slices of bytes. -/
def RdS (w : World) (A : Option Addr) (bss : List (List UInt8)) : Prop :=
  bss = [] ∨ ∃ b off, A = some ⟨b, off, none⟩ ∧ b < w.heap.size ∧ ∀ k (h : k < bss.length), ∃ Ak ck, w.cell? ⟨b, off + k, none⟩ = some (.slice Ak bss[k].length ck) ∧ Rd w Ak (bss[k].map bv) ∧ bss[k].length ≤ ck ∧ ck ≤ maxLen
section
variable {w w' : World} {A : Option Addr} {bss : List (List UInt8)}
theorem RdS.nil_ : RdS w A [] := .inl rfl
theorem RdS.below (h : RdS w A bss) (hb : Below w.heap.size w w') : RdS w' A bss := by
  rcases h with h | ⟨b, off, hA, hlt, hc⟩
  · exact .inl h
  · refine .inr ⟨b, off, hA, Nat.lt_of_lt_of_le hlt hb.size, fun k hk => ?_⟩
    obtain ⟨Ak, ck, h1, h2, h3, h4⟩ := hc k hk
    exact ⟨Ak, ck, (hb.cell (p := ⟨b, _, none⟩) hlt).trans h1, h2.below hb, h3, h4⟩
theorem RdS.drewN (h : RdS w A bss) (n : Nat) : RdS (w.drewN n) A bss := h
theorem RdS.alloc (h : RdS w A bss) (o : Obj) : RdS (w.alloc o) A bss := h.below ((Below.refl _ _).alloc (Nat.le_refl _) o)
theorem RdS.addr (h : RdS w A bss) (h0 : 0 < bss.length) : ∃ b off, A = some ⟨b, off, none⟩ ∧ b < w.heap.size ∧ ∀ k (h : k < bss.length), ∃ Ak ck, w.cell? ⟨b, off + k, none⟩ = some (.slice Ak bss[k].length ck) ∧ Rd w Ak (bss[k].map bv) ∧ bss[k].length ≤ ck ∧ ck ≤ maxLen := by
  rcases h with rfl | h
  · simp at h0
  · exact h
end
theorem flatten_take_succ (bss : List (List UInt8)) (k : Nat) (h : k < bss.length) : (bss.take (k + 1)).flatten = (bss.take k).flatten ++ bss[k] := by
  rw [List.take_succ_eq_append_getElem h, List.flatten_append]; simp
theorem flatten_take_le (bss : List (List UInt8)) (k : Nat) : (bss.take k).flatten.length ≤ bss.flatten.length := by
  have h := congrArg (fun l => l.flatten.length) (List.take_append_drop k bss)
  simp only [List.flatten_append, List.length_append] at h
  omega

/-! ### Arrays of 32 bytes -/
end Go.Proofs.Ytgnciejbhaebeaa
