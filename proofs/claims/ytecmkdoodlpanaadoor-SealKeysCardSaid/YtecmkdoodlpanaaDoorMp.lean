/- The code of a text under a key, in plain lists. Rows of 64 bytes. Conditions: none. -/
import Derived.Test.YtecmkdoodlpanaaDoorCu
namespace Go.Proofs.YtecmkdoodlpanaaDoor
open Go Go.RowKit

def keyL (key : List UInt8) : List UInt8 := if 64 < key.length then sumL key else key
theorem keyL_len (key : List UInt8) : (keyL key).length ≤ 64 := by
  unfold keyL
  split
  · rw [sumL_len]; omega
  · omega
def padK (k : List UInt8) : List UInt8 := k ++ List.replicate (64 - k.length) 0
theorem padK_len {k : List UInt8} (h : k.length ≤ 64) : (padK k).length = 64 := by simp [padK]; omega
def xorL (c : UInt8) (l : List UInt8) : List UInt8 := l.map (· ^^^ c)
theorem xorL_len (c : UInt8) (l : List UInt8) : (xorL c l).length = l.length := by simp [xorL]
def innerB (key p : List UInt8) : List UInt8 := xorL 54 (padK (keyL key)) ++ p
def codeB (key p : List UInt8) : List UInt8 := xorL 92 (padK (keyL key)) ++ sumL (innerB key p)
theorem innerB_len (key p : List UInt8) : (innerB key p).length = 64 + p.length := by
  rw [innerB, List.length_append, xorL_len, padK_len (keyL_len key)]
theorem codeB_len (key p : List UInt8) : (codeB key p).length = 96 := by
  rw [codeB, List.length_append, xorL_len, padK_len (keyL_len key), sumL_len]
/-- The first k are turned. -/
def xorK (c : UInt8) (l : List UInt8) (k : Nat) : List UInt8 := xorL c (l.take k) ++ l.drop k
theorem xorK_len (c : UInt8) (l : List UInt8) (k : Nat) : (xorK c l k).length = l.length := by
  rw [xorK, List.length_append, xorL_len, List.length_take, List.length_drop]; omega
theorem xorK_zero (c : UInt8) (l : List UInt8) : xorK c l 0 = l := by simp [xorK, xorL]
theorem xorK_all (c : UInt8) (l : List UInt8) : xorK c l l.length = xorL c l := by simp [xorK]
theorem xorK_get (c : UInt8) (l : List UInt8) (k : Nat) (h : k < l.length) : getB (xorK c l k) k = getB l k := by
  unfold getB xorK
  rw [List.getD_eq_getElem?_getD, List.getD_eq_getElem?_getD, List.getElem?_append_right (by rw [xorL_len, List.length_take]; omega), xorL_len, List.length_take, List.getElem?_drop]
  congr 2; omega
theorem xorK_set (c : UInt8) (l : List UInt8) (k : Nat) (h : k < l.length) : (xorK c l k).set k (getB l k ^^^ c) = xorK c l (k + 1) := by
  unfold xorK
  have hl : (xorL c (l.take k)).length = k := by rw [xorL_len, List.length_take]; omega
  rw [List.set_append_right _ _ (by omega), hl, Nat.sub_self, List.drop_eq_getElem_cons h, List.set_cons_zero, List.take_succ_eq_append_getElem h]
  unfold xorL
  rw [List.map_append, List.append_assoc]
  simp [getB, List.getD, h]
theorem bv_xorc (t : TypeId) (b c : UInt8) (n : Int) (hn : n = (c.toNat : Int)) : binOp .xor t (bv b) (.int .u8 n) = pure (bv (b ^^^ c)) := by
  subst hn
  have h1 := b.toNat_lt
  have h2 := c.toNat_lt
  have h3 := (b ^^^ c).toNat_lt
  simp only [bv, binOp, Op.intBits, ne_eq, not_true_eq_false, if_false]
  congr 2
  have h := u8_xor_nat b.toNat c.toNat h1 h2
  rw [UInt8.toNat_xor]
  rw [← h]
  rfl
theorem bv_xor54 (t : TypeId) (b : UInt8) : binOp .xor t (bv b) (.int .u8 54) = pure (bv (b ^^^ 54)) := bv_xorc t b 54 54 rfl
theorem bv_xor92 (t : TypeId) (b : UInt8) : binOp .xor t (bv b) (.int .u8 92) = pure (bv (b ^^^ 92)) := bv_xorc t b 92 92 rfl

theorem OwnB.ofBs {w : World} {B g n : Nat} {l : List UInt8} (h : Bs w g 5 l) (hn : l.length = n) (hB : B ≤ g) (hm : n ≤ maxLen) : OwnB w B (.slice (some ⟨g, 0, none⟩) n n) l := by
  subst hn
  refine ⟨by simp, .inr ⟨g, l.length, _, by simp, hB, h, by simp, hm, by simp, by simp [List.take_of_length_le]⟩⟩
theorem OwnB.toBs {w : World} {B g n : Nat} {l : List UInt8} (h : OwnB w B (.slice (some ⟨g, 0, none⟩) n n) l) : Bs w g 5 l := by
  have hl := h.len
  obtain ⟨_, ⟨hb, _⟩ | ⟨g', cap, cur, hv, _, hg, hn, _, hcs, ht⟩⟩ := h
  · cases hb
  · injection hv with h1 h2 h3
    injection h1 with h1
    injection h1 with h1
    subst h1 h3
    unfold Bs
    rw [hg]
    have hc : cur.toList = l.map bv := by
      rw [← ht, List.take_of_length_le]
      simp at hcs ⊢; omega
    rw [← hc]
end Go.Proofs.YtecmkdoodlpanaaDoor
