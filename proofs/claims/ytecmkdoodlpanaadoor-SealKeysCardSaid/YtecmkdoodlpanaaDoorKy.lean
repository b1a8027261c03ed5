/- Two arrays of 32 bytes in one struct: stored, answered. Conditions: 64 bytes. -/
import Derived.Test.YtecmkdoodlpanaaDoorSp
import Derived.Test.YtecmkdoodlpanaaDoorSv
import Derived.Great.BuildSlice
namespace Go.Proofs.YtecmkdoodlpanaaDoor
open Go Go.RowKit
theorem info_keys : (Tryd.prog.info? 49).map (·.size) = some 64 := by kernel_rfl
theorem wpList_storeKs (w : World) {ops : Array Oper} {rest : List Oper} {o : Oper} {a : Act} {Q : Exit → Act → World → Prop} (hgd : o.guard = none) (x y : Operand) (ho : o.op = .store 49 x y)
    (g : Nat) (C : Array Value) (hx : a.eval x = .pointer (some ⟨g, 0, none⟩)) (hy : a.eval y = .agg C) (t : TypeId) (l old : List UInt8) (hC : C = (l.map bv).toArray) (hW : Bs w g t old) (h8 : l.length = 64) (o8 : old.length = 64)
    (h : ∀ w', Bs w' g t l → w.grownBy w' (some g) → wpList Tryd.prog ops Q rest (a.put o.dst undef) w') : wpList Tryd.prog ops Q (o :: rest) a w := by
  subst hC
  refine wpList_store_row hgd 49 x y ho g _ hx hy t _ hW (by rw [info_keys]; simp [h8]) (by simp [h8, o8]) ?_ (h _ (setRow_heap w g _ _ _ _ hW) ⟨rfl, rfl, rfl, by simp, fun k _ hk => setRow_other w g k _ (fun e => hk (by rw [e]))⟩)
  simp only [Array.all_eq_true_iff_forall_mem]
  intro u hu
  simp only [List.mem_toArray, List.mem_map] at hu
  obtain ⟨_, _, rfl⟩ := hu
  rfl
theorem results_keys {fn : Func} {p : Tmp} (h : fn.results = #[.cell p 49]) (tmps : Array Value) (w : World) (g : Nat) (t : TypeId) (l : List UInt8) (hp : tmps.getD p undef = .pointer (some ⟨g, 0, none⟩)) (hW : Bs w g t l) (h8 : l.length = 64) :
    (results fn tmps).run Tryd.prog w = .ok (.agg (l.map bv).toArray) w :=
  results_cell_row h tmps w g _ _ _ _ hp hW Tryd.underlying49 rfl (by rw [info_keys]; simp [h8])
/-! ### Two such held against each other -/
theorem cells_keys : Tryd.prog.cellsOf 49 = 64 := by kernel_rfl
theorem key_keys : Tryd.prog.keyTypeAt 3 49 = true := by kernel_rfl
theorem guard_keys : Tryd.prog.eqGuardType Tryd.prog.depth 49 = false := by kernel_rfl
theorem keyLits_keys (l1 l2 : List UInt8) (h1 : l1.length = 32) (h2 : l2.length = 32) : Tryd.prog.keyLits 3 49 ((l1 ++ l2).map bv) = some ((l1 ++ l2).map bl) := by
  have e1 := keyLits_a32 l1 h1
  have e2 := keyLits_a32 l2 h2
  have d1 : (((l1 ++ l2).map bv).drop 0).take 32 = l1.map bv := by rw [List.drop_zero, List.map_append]; exact List.take_left' (by simp [h1])
  have d2 : (((l1 ++ l2).map bv).drop 32).take 32 = l2.map bv := by
    rw [List.map_append, List.drop_left' (by simp [h1]), List.take_of_length_le (by simp [h2])]
  unfold Program.keyLits
  rw [Tryd.underlying49]
  simp only []
  rw [if_pos ⟨by rw [cells_keys]; simp [h1, h2], by kernel_rfl⟩]
  simp only [List.mapM_cons, List.mapM_nil, cells_a32, d1, d2, e1, e2, bind, Option.bind_some, pure, Option.map_some, List.flatten_cons, List.flatten_nil, List.append_nil]
  rw [List.map_append]
theorem run_eqK (w : World) (a1 a2 b1 b2 : List UInt8) (h1 : a1.length = 32) (h2 : a2.length = 32) (h3 : b1.length = 32) (h4 : b2.length = 32) :
    (Op.equalIn 10000 49 (.agg ((a1 ++ a2).map bv).toArray) (.agg ((b1 ++ b2).map bv).toArray)).run Tryd.prog w = .ok (decide (a1 ++ a2 = b1 ++ b2)) w := by
  have fa : (Value.agg ((a1 ++ a2).map bv).toArray).formed Tryd.prog 49 = true := by simp [Value.formed, Tryd.underlying49, cells_keys, h1, h2]
  have fb : (Value.agg ((b1 ++ b2).map bv).toArray).formed Tryd.prog 49 = true := by simp [Value.formed, Tryd.underlying49, cells_keys, h3, h4]
  obtain ⟨r, hr, hiff⟩ := run_equalIn_deep (P := Tryd.prog) 9997 3 49 key_keys w 3 3 _ _ ((a1 ++ a2).map bl) ((b1 ++ b2).map bl) fa fb (by simpa only [Value.cells, List.toList_toArray] using keyLits_keys a1 a2 h1 h2) (by simpa only [Value.cells, List.toList_toArray] using keyLits_keys b1 b2 h3 h4)
  rw [show 10000 = 9997 + 3 from rfl, hr]
  congr 1
  rw [Bool.eq_iff_iff, hiff, decide_eq_true_iff]
  exact ⟨bl_map, fun h => by rw [h]⟩
/-- Two sums, as one value. -/
def keysV (a b : List UInt8) : Value := .agg ((sumL a ++ sumL b).map bv).toArray
theorem run_eq_keysV (w : World) (a1 a2 b1 b2 : List UInt8) : (binOp .eql 49 (keysV a1 a2) (keysV b1 b2)).run Tryd.prog w = .ok (.bool (decide (sumL a1 ++ sumL a2 = sumL b1 ++ sumL b2))) w := by
  unfold keysV
  rw [run_eql_struct, run_eqK w _ _ _ _ (sumL_len a1) (sumL_len a2) (sumL_len b1) (sumL_len b2)]
  rfl
theorem run_guard_keysV (w : World) (op : BinOp) (x y : Operand) (a1 a2 b1 b2 : List UInt8) : (eqGuard op 49 x y (keysV a1 a2) (keysV b1 b2)).run Tryd.prog w = .ok () w := by
  unfold keysV
  exact run_eqGuard_agg w op _ x y _ _ guard_keys
set_option maxRecDepth 100000 in
theorem built_keys2 (l1 l2 : List Value) (h1 : l1.length = 32) (h2 : l2.length = 32) : Tryd.prog.built 49 [(0, .agg l1.toArray), (1, .agg l2.toArray)] = some (l1 ++ l2).toArray := by
  match l1, h1, l2, h2 with
  | [a0, a1, a2, a3, a4, a5, a6, a7, a8, a9, a10, a11, a12, a13, a14, a15, a16, a17, a18, a19, a20, a21, a22, a23, a24, a25, a26, a27, a28, a29, a30, a31], _, [b0, b1, b2, b3, b4, b5, b6, b7, b8, b9, b10, b11, b12, b13, b14, b15, b16, b17, b18, b19, b20, b21, b22, b23, b24, b25, b26, b27, b28, b29, b30, b31], _ => (show _ = _; kernel_rfl)
theorem built_keys (a b : List UInt8) : Tryd.prog.built 49 [(0, sumV a), (1, sumV b)] = some ((sumL a ++ sumL b).map bv).toArray := by
  rw [List.map_append]
  exact built_keys2 _ _ (by rw [List.length_map, sumL_len]) (by rw [List.length_map, sumL_len])
end Go.Proofs.YtecmkdoodlpanaaDoor
