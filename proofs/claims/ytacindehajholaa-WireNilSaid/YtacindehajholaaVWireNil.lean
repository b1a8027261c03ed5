/- The walk of the law WireNil: it returns true. Conditions: none. -/
import Derived.Test.YtacindehajholaaWf
namespace Go.Proofs.Ytacindehajholaa
open Go Go.RowKit

set_option maxRecDepth 100000 in
theorem nNum_c (n : Int) (w : World) : Calls Try.prog 22 #[.pointer none, .int .i64 n] w fun e w' => e = .returned (.int .u64 0) ∧ w = w' := by
  go_enter Try.func22, Try.ntmps22
  go_wp2
  go_ret
  exact ⟨rfl, rfl⟩
set_option maxRecDepth 100000 in
theorem nVar_c (w : World) : Calls Try.prog 10 #[.pointer none] w fun e w' => e = .returned (.int .u64 0) ∧ w = w' := by
  go_enter Try.func10, Try.ntmps10
  go_wp2
  go_ret
  exact ⟨rfl, rfl⟩
set_option maxRecDepth 100000 in
theorem nText_c (n : Int) (w : World) : Calls Try.prog 25 #[.pointer none, .int .i64 n] w fun e w' => e = .returned (.slice none 0 0) ∧ w = w' := by
  go_enter Try.func25, Try.ntmps25
  go_wp2
  go_ret
  exact ⟨rfl, rfl⟩
set_option maxRecDepth 100000 in
theorem nTake_c (n : Int) (w : World) : Calls Try.prog 27 #[.pointer none, .int .i64 n] w fun e w' => e = .returned (.slice none 0 0) ∧ w = w' := by
  go_enter Try.func27, Try.ntmps27
  go_wp2
  go_ret
  exact ⟨rfl, rfl⟩
theorem nLeft_c (w : World) : Calls Try.prog 13 #[.pointer none] w fun e w' => e = .returned (.int .i64 0) ∧ w = w' := by
  go_enter Try.func13, Try.ntmps13
  go_wp2
  go_ret
  exact ⟨rfl, rfl⟩
theorem nErr_c (w : World) : Calls Try.prog 11 #[.pointer none] w fun e w' => e = .returned (.int .i64 1) ∧ w = w' := by
  go_enter Try.func11, Try.ntmps11
  go_wp2
  go_ret
  exact ⟨rfl, rfl⟩
theorem nEnd_c (w : World) : Calls Try.prog 30 #[.pointer none] w fun e w' => e = .returned (.int .i64 1) ∧ w = w' := by
  go_enter Try.func30, Try.ntmps30
  go_wp2_with (first | (go_at_call 11; refine (nErr_c _).mono ?_; rintro e w' ⟨rfl, rfl⟩))
  go_ret
  exact ⟨rfl, rfl⟩
set_option maxRecDepth 100000 in
set_option maxHeartbeats 1000000 in
theorem WireNil_walk (w : World) (n : Int) (_hn : (Lit.int .i64 n).wf = true) :
    Calls Try.prog 7 #[.int .i64 n] w fun e w' => e = .returned (.bool true) ∧ Below w.heap.size w w' := by
  go_enter Try.func7, Try.ntmps7
  go_wp2_with (first | (go_at_call 12; refine (fixed_c w).mono ?_; rintro e w1 ⟨rfl, hb⟩) | (go_at_call 22; refine (nNum_c _ _).mono ?_; rintro e w' ⟨rfl, rfl⟩) | (go_at_call 10; refine (nVar_c _).mono ?_; rintro e w' ⟨rfl, rfl⟩) | (go_at_call 25; refine (nText_c _ _).mono ?_; rintro e w' ⟨rfl, rfl⟩) | (go_at_call 27; refine (nTake_c _ _).mono ?_; rintro e w' ⟨rfl, rfl⟩) | (go_at_call 13; refine (nLeft_c _).mono ?_; rintro e w' ⟨rfl, rfl⟩) | (go_at_call 11; refine (nErr_c _).mono ?_; rintro e w' ⟨rfl, rfl⟩) | (go_at_call 30; refine (nEnd_c _).mono ?_; rintro e w' ⟨rfl, rfl⟩))
  go_ret
  exact ⟨rfl, hb⟩
end Go.Proofs.Ytacindehajholaa
