/- Text's contract, its answer behind a name. Conditions: lengths that fit. -/
import Derived.Test.YtacindehajholaaW1
namespace Go.Proofs.Ytacindehajholaa
open Go Go.RowKit
def textL (bs : List UInt8) : List UInt8 := if bs.length ≤ 4096 then varL bs.length ++ bs else []
def textE (bs : List UInt8) : Nat := if bs.length ≤ 4096 then 0 else 4
theorem textE_int (bs : List UInt8) : ((textE bs : Nat) : Int) = if bs.length ≤ 4096 then 0 else 4 := by unfold textE; split <;> rfl
theorem textL_len (bs : List UInt8) : (textL bs).length ≤ 4106 := by
  unfold textL
  split
  · have := varL_len10 (n := bs.length) (Nat.lt_of_le_of_lt ‹_› (by decide))
    rw [List.length_append]; omega
  · simp
theorem Text_d (A : Option Addr) (n c : Nat) (bs : List UInt8) (w : World) (hn : bs.length = n) (hr : Rd w A (bs.map bv)) (hl : n ≤ 140737488355000) :
    Calls Try.prog 17 #[.slice A n c] w fun e w' => ∃ A' c', e = .returned (.tuple #[.slice A' (textL bs).length c', .int .i64 ((textE bs : Nat) : Int)]) ∧ OwnB w' w.heap.size (.slice A' (textL bs).length c') (textL bs) ∧ Rd w' A' ((textL bs).map bv) ∧ Below w.heap.size w w' := by
  subst hn
  refine (Text_c A _ c bs w rfl hr hl).mono ?_
  rintro e w' ⟨v, rfl, h1, h2⟩
  obtain ⟨A', c', rfl, _, _, h3, _⟩ := OwnB.form h1
  exact ⟨A', c', by rw [textE_int]; rfl, h1, h3, h2⟩
theorem refText_d (A : Option Addr) (n c : Nat) (bs : List UInt8) (w : World) (hn : bs.length = n) (hr : Rd w A (bs.map bv)) (hl : n ≤ 140737488355000) :
    Calls Try.prog 18 #[.slice A n c] w fun e w' => ∃ A' c', e = .returned (.tuple #[.slice A' (textL bs).length c', .int .i64 ((textE bs : Nat) : Int)]) ∧ OwnB w' w.heap.size (.slice A' (textL bs).length c') (textL bs) ∧ Rd w' A' ((textL bs).map bv) ∧ Below w.heap.size w w' := by
  subst hn
  refine (refText_c A _ c bs w rfl hr hl).mono ?_
  rintro e w' ⟨v, rfl, h1, h2⟩
  obtain ⟨A', c', rfl, _, _, h3, _⟩ := OwnB.form h1
  exact ⟨A', c', by rw [textE_int]; rfl, h1, h3, h2⟩
end Go.Proofs.Ytacindehajholaa
