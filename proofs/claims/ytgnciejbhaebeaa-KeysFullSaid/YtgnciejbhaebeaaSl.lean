/- What the laws on sums call: the fixed example, the size, all held against all. Conditions: the table stands. -/
import Derived.Test.YtgnciejbhaebeaaSh4
import Derived.Test.YtgnciejbhaebeaaSr4
import Derived.Test.YtgnciejbhaebeaaSv
import Derived.Test.YtgnciejbhaebeaaCp
import Derived.Lib.SlBytesConst
import Derived.Lib.SmallJoins
namespace Go.Proofs.Ytgnciejbhaebeaa
open Go Go.RowKit
theorem sumV_agg (b : List UInt8) : sumV b = .agg ((sumL b).map bv).toArray := rfl
theorem get_of (l : List UInt8) (i : Nat) (x : UInt8) (h : l[i]? = some x) : getB l i = x := by simp [getB, List.getD, h]
theorem z32_len : (List.replicate 32 (0 : UInt8)).length = 32 := rfl

theorem conv_const (w : World) (C : Array Value) (n c : Nat) : (convert 27 27 (.slice (some ⟨w.heap.size, 0, none⟩) n c)).run Try.prog (w.alloc (.cells C 5)) = .ok (.slice (some ⟨w.heap.size, 0, none⟩) n c) (w.alloc (.cells C 5 (C.size, C.size + 1))) :=
  Lib.run_convert_bytes_const w 27 5 C n c Try.underlying27 Try.underlying5
theorem Rd.litM (w : World) (vs : List Value) (t : TypeId) (fr : Nat × Nat) : Rd (w.alloc (.cells vs.toArray t fr)) (some ⟨w.heap.size, 0, none⟩) vs := by
  refine .inr ⟨w.heap.size, 0, rfl, by simp, fun k hk => ?_⟩
  rw [Nat.zero_add, World.cell?_alloc_mark]
  simp

theorem RdS_one (w : World) (A : Option Addr) (n c : Nat) (b : List UInt8) (t : TypeId) (hn : b.length = n) (hr : Rd w A (b.map bv)) (h1 : n ≤ c) (h2 : c ≤ maxLen) :
    RdS (w.alloc (.cells #[.slice A n c] t)) (some ⟨w.heap.size, 0, none⟩) [b] := by
  refine .inr ⟨w.heap.size, 0, rfl, by simp, fun k hk => ?_⟩
  obtain rfl : k = 0 := by simp at hk; omega
  refine ⟨A, c, ?_, hr.alloc _, by simpa [hn] using h1, h2⟩
  rw [cell_of_row _ _ 0 _ _ (0, 0) (heap_alloc_new w _)]
  simp [hn]
attribute [local go_sem] conv_const

/-! ### The size -/
def SzOk (bss : List (List UInt8)) (e : Ending) : Prop := ∃ r : Int, e = .returned (.int .i64 r) ∧ 0 ≤ r ∧ r ≤ 9000000000000000000 ∧ (r ≤ 16384 → bss.flatten.length ≤ 16384)
/-! ### All held against all -/
theorem Same_q (A1 A2 : Option Addr) (n c1 c2 : Nat) (xs : List UInt8) (w : World) (l1 : xs.length = n) (h1 : Rd w A1 (xs.map bv)) (h2 : Rd w A2 (xs.map bv)) (m1 : n ≤ maxLen) (q m : Nat) :
    Calls Try.prog 21 #[.slice A1 n c1, .slice A2 n c2] (w.drewN (q + m)) fun e w' => e = .returned (.bool true) ∧ ∃ k, w' = w.drewN (q + k) :=
  (Same_t A1 A2 n n c1 c2 xs (w.drewN (q + m)) l1 l1 (h1.drewN _) (h2.drewN _) m1).mono fun _ _ ⟨he, q', hw⟩ => ⟨he, m + q', by rw [hw, World.drewN_drewN, Nat.add_assoc]⟩
/-- A literal slice of slices in a new block. -/
theorem RdS_lit (w : World) (ps : List (Option Addr × Nat × Nat)) (bss : List (List UInt8)) (t : TypeId) (hl : ps.length = bss.length)
    (h : ∀ x ∈ ps.zip bss, x.2.length = x.1.2.1 ∧ Rd w x.1.1 (x.2.map bv) ∧ x.1.2.1 ≤ x.1.2.2 ∧ x.1.2.2 ≤ maxLen) :
    RdS (w.alloc (.cells (ps.map fun p => Value.slice p.1 p.2.1 p.2.2).toArray t)) (some ⟨w.heap.size, 0, none⟩) bss := by
  refine .inr ⟨w.heap.size, 0, rfl, by simp, fun k hk => ?_⟩
  have hk' : k < ps.length := by omega
  have hz : k < (ps.zip bss).length := by simp; omega
  obtain ⟨h1, h2, h3, h4⟩ := h _ (List.getElem_mem hz)
  simp only [List.getElem_zip] at h1 h2 h3 h4
  refine ⟨ps[k].1, ps[k].2.2, ?_, h2.alloc _, by omega, h4⟩
  rw [Nat.zero_add, cell_of_row _ _ k _ _ (0, 0) (heap_alloc_new w _), h1]
  simp [hk']
end Go.Proofs.Ytgnciejbhaebeaa
