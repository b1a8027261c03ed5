/- Plain law: a turned byte of the tag. Conditions: the byte that turns it is not zero. -/
import Derived.Test.YtecmkdoodlpanaaDoorSe5
import Derived.Test.YtecmkdoodlpanaaDoorBase
namespace Go.Proofs.YtecmkdoodlpanaaDoor
open Go Go.RowKit

theorem xor_ne {x b : UInt8} (h : b ≠ 0) : x ^^^ b ≠ x := by
  intro e
  apply h
  have : x ^^^ (x ^^^ b) = x ^^^ x := by rw [e]
  rw [← UInt8.xor_assoc, UInt8.xor_self, UInt8.zero_xor] at this
  exact this
theorem turned (key : List UInt8) (h : Hd) (body L : List UInt8) (eL : L = headL h ++ body ++ tagL key (headL h ++ body)) (i j : Nat) (hj : j < 16) (hi : i = 14 + body.length + j) (B : UInt8) (hB : B ≠ 0) :
    ∃ t', L.set i (getB L i ^^^ B) = headL h ++ body ++ t' ∧ t'.length = 16 ∧ tagL key (headL h ++ body) ≠ t' := by
  have hl : (headL h ++ body).length = 14 + body.length := by rw [List.length_append, headL_len]
  have ht := tagL_len key (headL h ++ body)
  subst hi
  generalize tagL key (headL h ++ body) = t at eL ht ⊢
  have hg : getB L (14 + body.length + j) = getB t j := by
    unfold getB
    rw [eL, List.getD_eq_getElem?_getD, List.getD_eq_getElem?_getD, List.getElem?_append_right (by omega), hl]
    congr 2; omega
  refine ⟨t.set j (getB t j ^^^ B), ?_, by rw [List.length_set, ht], ?_⟩
  · rw [hg, eL, List.set_append_right _ _ (by omega), hl]
    congr 2; omega
  · intro e
    have h1 := congrArg (fun l : List UInt8 => getB l j) e
    have h2 : getB (t.set j (getB t j ^^^ B)) j = getB t j ^^^ B := by
      unfold getB
      rw [List.getD_eq_getElem?_getD, List.getElem?_set_self (by omega)]
      rfl
    rw [h2] at h1
    exact xor_ne hB h1.symm
theorem OwnB.open2 {w : World} {B n c : Nat} {Ao : Option Addr} {l : List UInt8} (h : OwnB w B (.slice Ao n c) l) (h0 : 0 < n) : ∃ g, Ao = some ⟨g, 0, none⟩ ∧ B ≤ g ∧ g < w.heap.size ∧ l.length = n := by
  obtain ⟨A7, c7, e7, _, _, rd7, hA7⟩ := OwnB.form h
  injection e7 with e1 e2 e3
  subst e1 e2
  obtain ⟨b, off, rfl, hb, _⟩ := rd7.addrB h0
  obtain ⟨q1, q2, q3, _⟩ := hA7 _ rfl
  simp only at q1 q2 q3
  subst q3
  exact ⟨b, rfl, q1, q2, rfl⟩
theorem rd_of2 {w : World} {B n c : Nat} {Ao : Option Addr} {l : List UInt8} (h : OwnB w B (.slice Ao n c) l) : Rd w Ao (l.map bv) := by
  obtain ⟨A7, c7, e7, _, _, rd7, _⟩ := OwnB.form h
  injection e7 with e1 e2 e3
  subst e1
  exact rd7
theorem u8_of {y : Int} (h : (Lit.int .u8 y).wf = true) : ∃ n : Nat, y = (n : Int) ∧ n < 256 := by
  simp only [Lit.wf, IntKind.min, IntKind.max, IntKind.signed, IntKind.bits, Bool.and_eq_true, decide_eq_true_eq] at h
  have h1 : (0 : Int) ≤ y := by simpa using h.1
  have h2 : y ≤ 255 := by simpa using h.2
  exact ⟨y.toNat, by omega, by omega⟩
end Go.Proofs.YtecmkdoodlpanaaDoor
