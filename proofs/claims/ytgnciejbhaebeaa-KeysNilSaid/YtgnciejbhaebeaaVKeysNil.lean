/- The walk of the law KeysNil: it returns true. Conditions: the row's own. -/
import Derived.Test.YtgnciejbhaebeaaKq2
import Derived.Test.YtgnciejbhaebeaaOev
namespace Go.Proofs.Ytgnciejbhaebeaa
open Go Go.RowKit

set_option maxRecDepth 100000 in
set_option maxHeartbeats 4000000 in
theorem KeysNil_walk (w : World) (k : Int) (A : Option Addr) (n c : Nat) (x y b : Int) (bs : List UInt8) (_ : bs.length = n ∧ Rd w A (bs.map bv) ∧ n ≤ c ∧ c ≤ maxLen ∧ n ≤ 140737488351232) (z : Int) (_ : (Lit.int .u64 z).wf = true) :
    Calls Try.prog 7 #[.agg #[.int .i64 k, .slice A n c, .int .i64 x, .int .i64 y, .int .i64 b], .int .u64 z] w fun r w' => r = .returned (.bool true) ∧ Below w.heap.size w w' := by
  obtain ⟨w1, ew1⟩ : ∃ w1, w1 = w.alloc (.cells #[.int .i64 k, .slice A n c, .int .i64 x, .int .i64 y, .int .i64 b] 36) := ⟨_, rfl⟩
  have k1 : Below w.heap.size w w1 := by rw [ew1]; exact (Below.refl _ _).alloc (Nat.le_refl _) _
  have hg : w1.heap[w.heap.size]? = some (.cells #[.int .i64 k, .slice A n c, .int .i64 x, .int .i64 y, .int .i64 b] 36 (0, 0)) := by rw [ew1]; exact heap_alloc_new w _
  have HG := Lib.hid hg; clear hg
  have EW := Lib.hid ew1; clear ew1
  go_enter Try.func7, Try.ntmps7
  go_wp2_with (fail)
  rw [← EW.out]
  refine (Push_n k x y b A n c w1).mono ?_
  rintro r w2 ⟨rfl, hb2⟩
  have k2 := k1.trans (hb2.mono k1.size)
  have HG2 := Lib.hid ((hb2.block _ (heap_lt HG.out)).trans HG.out)
  clear hb2
  go_wp2_with (fail)
  refine (Batch_n w2).mono ?_
  rintro r w3 ⟨rfl, rfl⟩
  have c0 : w2.cell? ⟨w.heap.size, 0, none⟩ = some (.int .i64 k) := by rw [heap_cell HG2.out]; rfl
  have c1 : w2.cell? ⟨w.heap.size, 1, none⟩ = some (.slice A n c) := by rw [heap_cell HG2.out]; rfl
  have c2 : w2.cell? ⟨w.heap.size, 2, none⟩ = some (.int .i64 x) := by rw [heap_cell HG2.out]; rfl
  have c3 : w2.cell? ⟨w.heap.size, 3, none⟩ = some (.int .i64 y) := by rw [heap_cell HG2.out]; rfl
  have c4 : w2.cell? ⟨w.heap.size, 4, none⟩ = some (.int .i64 b) := by rw [heap_cell HG2.out]; rfl
  have k3 := k2.alloc k2.size (.cells #[.int .i64 k, .slice A n c, .int .i64 x, .int .i64 y, .int .i64 b] 36)
  go_wp2_with (fail)
  refine (Take_n z _ 1 1 _).mono ?_
  rintro r w4 ⟨rfl, rfl⟩
  go_wp2_with (fail)
  refine (fixed24_c _).mono ?_
  rintro r w5 ⟨rfl, hb5⟩
  have k5 := k3.trans (hb5.mono k3.size)
  clear hb5 c0 c1 c2 c3 c4 k1 k2 k3
  go_wp2_with (fail)
  refine (Ack_n z w5).mono ?_
  rintro r w6 ⟨rfl, rfl⟩
  go_wp2_with (fail)
  refine (Accepted_n w5).mono ?_
  rintro r w6 ⟨rfl, rfl⟩
  go_wp2_with (fail)
  refine (Got_n w5).mono ?_
  rintro r w6 ⟨rfl, rfl⟩
  go_wp2_with (fail)
  go_ret
  exact ⟨rfl, k5⟩
end Go.Proofs.Ytgnciejbhaebeaa
