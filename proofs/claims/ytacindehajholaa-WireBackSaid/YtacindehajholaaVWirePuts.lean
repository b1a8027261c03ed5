/- The walk of the law WirePuts: it returns true. Conditions: the row's own. -/
import Derived.Test.YtacindehajholaaWf
import Derived.Test.YtacindehajholaaW2
namespace Go.Proofs.Ytacindehajholaa
open Go Go.RowKit

theorem u64_of_wf {a : Int} (h : (Lit.int .u64 a).wf = true) : ∃ n : Nat, a = (n : Int) ∧ U64 n := by
  obtain ⟨h1, h2⟩ := bounds_u64 h
  refine ⟨a.toNat, by omega, ?_⟩
  show a.toNat < 2 ^ 64
  omega

set_option maxRecDepth 100000 in
set_option maxHeartbeats 1000000 in
theorem WirePuts_walk (w : World) (a0 : Int) (w0 : (Lit.int .u64 a0).wf = true) (a1 : Int) (_w1 : (Lit.int .i64 a1).wf = true) (A : Option Addr) (n c : Nat) (bs : List UInt8) (hn : bs.length = n) (hr : Rd w A (bs.map bv)) (_hc : n ≤ c) (_hm : c ≤ maxLen) (hl : n ≤ 140737488351232) :
    Calls Try.prog 4 #[.int .u64 a0, .int .i64 a1, .slice A n c] w fun e w' => e = .returned (.bool true) ∧ Below w.heap.size w w' := by
  obtain ⟨x, rfl, hx⟩ := u64_of_wf w0
  have HN := Lib.hid hn; clear hn w0
  go_enter Try.func4, Try.ntmps4
  go_wp2_with (fail)
  refine (Copy_c A n c bs w HN.out hr (by omega)).mono ?_
  rintro e w1 ⟨v, rfl, ho1, hb1⟩
  obtain ⟨A1, c1, rfl, _, _, hr1, _⟩ := OwnB.form ho1
  rw [HN.out]
  clear ho1
  go_wp2_with (fail)
  refine (Text_d A1 n c1 bs w1 HN.out hr1 (by omega)).mono ?_
  rintro e w2 ⟨A2, c2, rfl, _, hr2, hb2⟩
  have hb12 := hb1.trans (hb2.mono hb1.size)
  go_wp2_with (fail)
  refine (refText_d A n c bs w2 HN.out (hr.below hb12) (by omega)).mono ?_
  rintro e w3 ⟨A3, c3, rfl, _, hr3, hb3⟩
  have hb13 := hb12.trans (hb3.mono hb12.size)
  have hlt := textL_len bs
  go_wp2_with (fail)
  refine (fixed_c w3).mono ?_
  rintro e w4 ⟨rfl, hb4⟩
  have hb14 := hb13.trans (hb4.mono hb13.size)
  go_wp2_with (fail)
  refine (Same_t A2 A3 _ _ c2 c3 (textL bs) w4 rfl rfl ((hr2.below hb3).below hb4) (hr3.below hb4) (by unfold maxLen; omega)).mono ?_
  rintro e w5 ⟨rfl, q5, rfl⟩
  go_wp2_with (fail)
  refine (Same_t A1 A n n c1 c bs (w4.drewN q5) HN.out HN.out (((((hr1.below hb2).below hb3).below hb4)).drewN q5) ((hr.below hb14).drewN q5) (by unfold maxLen; omega)).mono ?_
  rintro e w6 ⟨rfl, q6, rfl⟩
  go_wp2_with (fail)
  refine (Num_c x a1 _ hx).mono ?_
  rintro e w7 ⟨v, rfl, ho7, hb7⟩
  have hb17 : Below w.heap.size w w7 := (below_drewN hb14 _).trans (hb7.mono hb14.size)
  obtain ⟨A7, c7, rfl, _, _, hr7, _⟩ := OwnB.form ho7
  clear ho7
  go_wp2_with (fail)
  refine (refNum_c x a1 _ hx).mono ?_
  rintro e w8 ⟨v, rfl, ho8, hb8⟩
  have hb18 : Below w.heap.size w w8 := hb17.trans (hb8.mono hb17.size)
  obtain ⟨A8, c8, rfl, _, _, hr8, _⟩ := OwnB.form ho8
  clear ho8
  have hln : (numLI x a1).length ≤ 8 := by
    unfold numLI; split
    · rw [numL_length]; omega
    · simp
  go_wp2_with (fail)
  refine (Same_t A7 A8 _ _ c7 c8 (numLI x a1) w8 rfl rfl (hr7.below hb8) hr8 (by unfold maxLen; omega)).mono ?_
  rintro e w9 ⟨rfl, q9, rfl⟩
  go_wp2_with (fail)
  refine (Var_c x _ hx).mono ?_
  rintro e w10 ⟨v, rfl, ho10, hb10⟩
  have hb110 : Below w.heap.size w w10 := (below_drewN hb18 q9).trans (hb10.mono hb18.size)
  obtain ⟨A10, c10, rfl, _, _, hr10, _⟩ := OwnB.form ho10
  clear ho10
  go_wp2_with (fail)
  refine (refVar_c x _ hx).mono ?_
  rintro e w11 ⟨v, rfl, ho11, hb11⟩
  have hb111 : Below w.heap.size w w11 := hb110.trans (hb11.mono hb110.size)
  obtain ⟨A11, c11, rfl, _, _, hr11, _⟩ := OwnB.form ho11
  clear ho11
  have hlv := varL_len10 hx
  go_wp2_with (fail)
  refine (Same_t A10 A11 _ _ c10 c11 (varL x) w11 rfl rfl (hr10.below hb11) hr11 (by unfold maxLen; omega)).mono ?_
  rintro e w12 ⟨rfl, q12, rfl⟩
  go_wp2_with (fail)
  go_ret
  exact ⟨rfl, below_drewN hb111 _⟩
end Go.Proofs.Ytacindehajholaa
