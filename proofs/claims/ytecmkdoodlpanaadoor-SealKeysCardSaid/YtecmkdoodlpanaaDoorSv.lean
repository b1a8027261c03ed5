/- A sum as one value: held against another one; the two sums of the chapter's example, worked out. Conditions: none. -/
import Derived.Test.YtecmkdoodlpanaaDoorSp
import Derived.DeepKeys
namespace Go.Proofs.YtecmkdoodlpanaaDoor
open Go Go.RowKit

def bl (b : UInt8) : Lit := .int .u8 (b.toNat : Int)
theorem bl_inj {x y : UInt8} (h : bl x = bl y) : x = y := by
  simp only [bl, Lit.int.injEq, true_and] at h
  exact UInt8.toNat_inj.1 (by omega)
theorem bl_map {a b : List UInt8} (h : a.map bl = b.map bl) : a = b := by
  induction a generalizing b with
  | nil => cases b with
    | nil => rfl
    | cons y b => simp at h
  | cons x a ih => cases b with
    | nil => simp at h
    | cons y b =>
      simp only [List.map_cons, List.cons.injEq] at h
      rw [bl_inj h.1, ih h.2]
theorem mapM_range {α : Type} (n : Nat) (f : Nat → Option α) (g : Nat → α) (h : ∀ i, i < n → f i = some (g i)) : (List.range n).mapM f = some ((List.range n).map g) := by
  have go : ∀ (is : List Nat), (∀ i ∈ is, i < n) → is.mapM f = some (is.map g) := by
    intro is
    induction is with
    | nil => intro _; rfl
    | cons i is ih =>
      intro hi
      rw [List.mapM_cons, h i (hi i (by simp)), ih (fun j hj => hi j (by simp [hj]))]
      rfl
  exact go _ (fun i hi => List.mem_range.1 hi)
theorem flat1 {α : Type} (g : Nat → α) (is : List Nat) : (is.map fun i => [g i]).flatten = is.map g := by
  induction is with
  | nil => rfl
  | cons i is ih => rw [List.map_cons, List.flatten_cons, ih]; rfl
theorem cells_a32 : Tryd.prog.cellsOf 46 = 32 := by kernel_rfl
theorem cells_u8 : Tryd.prog.cellsOf 5 = 1 := by kernel_rfl
theorem key_a32 : Tryd.prog.keyTypeAt 2 46 = true := by kernel_rfl
theorem guard_a32 : Tryd.prog.eqGuardType Tryd.prog.depth 46 = false := by kernel_rfl
theorem keyLits_a32 (l : List UInt8) (h : l.length = 32) : Tryd.prog.keyLits 2 46 (l.map bv) = some (l.map bl) := by
  unfold Program.keyLits
  rw [Tryd.underlying46]
  simp only [List.length_map, h, cells_a32, cells_u8, if_true]
  rw [mapM_range 32 _ (fun i => [bl (getB l i)]) (fun i hi => ?_)]
  · rw [Option.map_some]
    congr 1
    rw [flat1 (fun i => bl (getB l i))]
    apply List.ext_getElem (by simp [h])
    intro i h1 h2
    simp only [List.getElem_map, List.getElem_range]
    simp at h2
    simp [getB, List.getD, h2]
  · unfold Program.keyLits
    rw [Tryd.underlying5]
    have hi' : i < (l.map bv).length := by simp [h, hi]
    rw [Nat.mul_one, List.drop_eq_getElem_cons hi', List.take_succ_cons, List.take_zero]
    have hb := (l[i]'(by simpa using hi')).toNat_lt
    have hw : (Lit.int .u8 ((l[i]'(by simpa using hi')).toNat : Int)).wf = true := by
      simp [Lit.wf, IntKind.min, IntKind.max, IntKind.signed, IntKind.bits] at hb ⊢; omega
    simp only [List.getElem_map, bv]
    simp [hw, getB, List.getD, bl, h, hi]
theorem run_eqA (w : World) (a b : List UInt8) (ha : a.length = 32) (hb : b.length = 32) :
    (Op.equalIn 10000 46 (.agg (a.map bv).toArray) (.agg (b.map bv).toArray)).run Tryd.prog w = .ok (decide (a = b)) w := by
  have fa : (Value.agg (a.map bv).toArray).formed Tryd.prog 46 = true := by simp [Value.formed, Tryd.underlying46, cells_a32, ha]
  have fb : (Value.agg (b.map bv).toArray).formed Tryd.prog 46 = true := by simp [Value.formed, Tryd.underlying46, cells_a32, hb]
  obtain ⟨r, hr, hiff⟩ := run_equalIn_deep (P := Tryd.prog) 9998 2 46 key_a32 w 2 2 _ _ (a.map bl) (b.map bl) fa fb (by simpa [Value.cells] using keyLits_a32 a ha) (by simpa [Value.cells] using keyLits_a32 b hb)
  rw [show 10000 = 9998 + 2 from rfl, hr]
  congr 1
  rw [Bool.eq_iff_iff, hiff, decide_eq_true_iff]
  exact ⟨bl_map, fun h => by rw [h]⟩

/-- The sum of bytes, as one value. -/
def sumV (b : List UInt8) : Value := .agg ((sumL b).map bv).toArray
theorem run_eq_sumV (w : World) (a b : List UInt8) : (binOp .eql 46 (sumV a) (sumV b)).run Tryd.prog w = .ok (.bool (decide (sumL a = sumL b))) w := by
  unfold sumV
  rw [run_eql_struct, run_eqA w _ _ (sumL_len a) (sumL_len b)]
  rfl
theorem run_guard_sumV (w : World) (op : BinOp) (x y : Operand) (a b : List UInt8) : (eqGuard op 46 x y (sumV a) (sumV b)).run Tryd.prog w = .ok () w := by
  unfold sumV
  exact run_eqGuard_agg w op _ x y _ _ guard_a32
set_option maxRecDepth 100000 in
theorem sum_none : (sumL [])[0]? = some 0xe3 ∧ (sumL [])[31]? = some 0x55 := by decide +kernel
set_option maxRecDepth 100000 in
theorem sum_abc : (sumL [97, 98, 99])[0]? = some 0xba ∧ (sumL [97, 98, 99])[1]? = some 0x78 ∧ (sumL [97, 98, 99])[31]? = some 0xad := by decide +kernel
end Go.Proofs.YtecmkdoodlpanaaDoor
