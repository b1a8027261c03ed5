/- What the small functions of sha and of its reference do with words. Conditions: counts below 32. -/
import Derived.Test.YtecmkdoodlpanaaDoorWd
namespace Go.Proofs.YtecmkdoodlpanaaDoor
open Go Go.RowKit
attribute [local go_sem] wv_add wv_sub wv_mul wv_xor wv_and wv_or wv_shr wv_shl wv_not wv_store bv_store bv_conv wv_conv

/-- Turned right. -/
def ror (x : BitVec 32) (n : Nat) : BitVec 32 := x >>> n ||| x <<< (32 - n)

theorem and31 (n : Nat) (h0 : 0 < n) (h : n < 32) : bits BinOp.and .u64 (18446744073709551616 - (n : Int)) 31 = ((32 - n : Nat) : Int) := by
  have h1 := u64_and_nat (18446744073709551616 - n) 31 (by omega) (by omega)
  rw [show (31 : Nat) = 2 ^ 5 - 1 from rfl, Nat.and_two_pow_sub_one_eq_mod] at h1
  rw [show ((18446744073709551616 - n : Nat) : Int) = 18446744073709551616 - (n : Int) by omega] at h1
  rw [show (31 : Int) = ((2 ^ 5 - 1 : Nat) : Int) from rfl, h1]
  omega

set_option maxRecDepth 100000 in
set_option maxHeartbeats 400000 in
theorem Rot_c (x : BitVec 32) (n : Nat) (h0 : 0 < n) (h : n < 32) (w : World) :
    Calls Tryd.prog 49 #[wv x, .int .i64 (-(n : Int))] w fun e w' => e = .returned (wv (ror x n)) ∧ w = w' := by
  have hw : IntKind.u64.wrap (-(n : Int)) = 18446744073709551616 - (n : Int) := by simp only [IntKind.wrap_u64]; omega
  have ha := and31 n h0 h
  obtain ⟨m, hm⟩ : ∃ m, m = 32 - n := ⟨_, rfl⟩
  rw [← hm] at ha
  have hr : ror x n = x <<< m ||| x >>> n := by rw [ror, hm, BitVec.or_comm]
  rw [hr]
  have h1 : (m : Int) ≤ 32 := by omega
  have h2 : (0 : Int) ≤ (m : Int) := by omega
  have h3 : (32 : Int) - (m : Int) = (n : Int) := by omega
  have h4 : (n : Int) ≤ 32 := by omega
  clear hr
  have HM := Lib.hid hm; clear hm
  go_enter Tryd.func49, Tryd.ntmps49
  go_wp2
  go_ret
  exact ⟨rfl, rfl⟩

set_option maxRecDepth 100000 in
set_option maxHeartbeats 400000 in
theorem Right_c (x : BitVec 32) (n : Nat) (h0 : 0 < n) (h : n < 32) (w : World) :
    Calls Tryd.prog 46 #[wv x, .int .i64 (n : Int)] w fun e w' => e = .returned (wv (ror x n)) ∧ w = w' := by
  go_enter Tryd.func46, Tryd.ntmps46
  go_wp2_with (fail)
  refine (Rot_c x n h0 h w).mono ?_
  rintro e w' ⟨rfl, rfl⟩
  go_wp2_with (fail)
  go_ret
  exact ⟨rfl, rfl⟩
theorem Right_s (x : BitVec 32) (n : Nat) (h0 : 0 < n) (h : n < 32) (w : World) :
    Calls Tryd.prog 46 #[wv x, .int .i64 (n : Int)] w fun e w' => e = .returned (wv (ror x n)) ∧ w' = w :=
  (Right_c x n h0 h w).mono fun _ _ h => ⟨h.1, h.2.symm⟩
theorem Right_q (x : BitVec 32) (n : Nat) (h0 : 0 < n) (h : n < 32) (w : World) (q m : Nat) :
    Calls Tryd.prog 46 #[wv x, .int .i64 (n : Int)] (w.drewN (q + m)) fun e w' => e = .returned (wv (ror x n)) ∧ ∃ k, w' = w.drewN (q + k) :=
  (Right_s x n h0 h _).mono fun _ _ h => ⟨h.1, m, h.2⟩
end Go.Proofs.YtecmkdoodlpanaaDoor
