/- A sum as one value: held against another one; the two sums of the chapter's example, worked out. Conditions: none. -/
import Derived.Test.YtgnciejbhaebeaaSp
import Derived.DeepKeys
namespace Go.Proofs.Ytgnciejbhaebeaa
open Go Go.RowKit

def bl (b : UInt8) : Lit := .int .u8 (b.toNat : Int)
theorem bl_inj {x y : UInt8} (h : bl x = bl y) : x = y := by
  simp only [bl, Lit.int.injEq, true_and] at h
  exact UInt8.toNat_inj.1 (by omega)
theorem bl_map {a b : List UInt8} (h : a.map bl = b.map bl) : a = b := by
  induction a generalizing b with
  | nil => cases b with
    | nil => rfl
    | cons y b => simp at h
  | cons x a ih => cases b with
    | nil => simp at h
    | cons y b =>
      simp only [List.map_cons, List.cons.injEq] at h
      rw [bl_inj h.1, ih h.2]
theorem mapM_range {α : Type} (n : Nat) (f : Nat → Option α) (g : Nat → α) (h : ∀ i, i < n → f i = some (g i)) : (List.range n).mapM f = some ((List.range n).map g) := by
  have go : ∀ (is : List Nat), (∀ i ∈ is, i < n) → is.mapM f = some (is.map g) := by
    intro is
    induction is with
    | nil => intro _; rfl
    | cons i is ih =>
      intro hi
      rw [List.mapM_cons, h i (hi i (by simp)), ih (fun j hj => hi j (by simp [hj]))]
      rfl
  exact go _ (fun i hi => List.mem_range.1 hi)
theorem flat1 {α : Type} (g : Nat → α) (is : List Nat) : (is.map fun i => [g i]).flatten = is.map g := by
  induction is with
  | nil => rfl
  | cons i is ih => rw [List.map_cons, List.flatten_cons, ih]; rfl
theorem cells_u8 : Try.prog.cellsOf 5 = 1 := by kernel_rfl
/-- The sum of bytes, as one value. -/
def sumV (b : List UInt8) : Value := .agg ((sumL b).map bv).toArray
set_option maxRecDepth 100000 in
theorem sum_none : (sumL [])[0]? = some 0xe3 ∧ (sumL [])[31]? = some 0x55 := by decide +kernel
set_option maxRecDepth 100000 in
theorem sum_abc : (sumL [97, 98, 99])[0]? = some 0xba ∧ (sumL [97, 98, 99])[1]? = some 0x78 ∧ (sumL [97, 98, 99])[31]? = some 0xad := by decide +kernel
end Go.Proofs.Ytgnciejbhaebeaa
