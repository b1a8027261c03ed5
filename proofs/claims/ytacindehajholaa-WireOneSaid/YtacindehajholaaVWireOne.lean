/- The walk of the law WireOne: it returns true. Conditions: the row's own. -/
import Derived.Test.YtacindehajholaaWf
import Derived.Test.YtacindehajholaaPl2
import Derived.Deep.RegionHeld3
namespace Go.Proofs.Ytacindehajholaa
open Go Go.RowKit

set_option maxRecDepth 100000 in
set_option maxHeartbeats 1000000 in
theorem WireOne_walk (w : World) (A : Option Addr) (n c : Nat) (bs : List UInt8) (hn : bs.length = n) (hr : Rd w A (bs.map bv)) (hc : n ≤ c) (_hm : c ≤ maxLen) (hl : n ≤ 140737488351232) :
    Calls Try.prog 3 #[.slice A n c] w fun e w' => e = .returned (.bool true) ∧ Below w.heap.size w w' := by
  subst hn
  cases hg : varGo bs 0 with
  | bad er =>
    have hv : varR ⟨bs, 0, 0⟩ = (0, ⟨bs, 0, er⟩) := by rw [varR, if_neg (by simp), List.drop_zero, hg]
    have hb : (((er : Nat) : Int) != 0) = true := by
      rw [bne_iff_ne]
      rcases varGo_err hg with rfl | rfl <;> decide
    have HV := Lib.hid hv; clear hv hg
    go_enter Try.func3, Try.ntmps3
    go_wp2_with (fail)
    refine (Rnew_c A _ c bs w rfl hr (by omega)).mono ?_
    rintro e w1 ⟨r, rfl, hr1, hR1, hb1⟩
    go_wp2_with (fail)
    refine (Rvar_c r _ _ hR1).mono ?_
    rintro e w2 ⟨rfl, hR2, hg2⟩
    rw [HV.out] at hR2
    rw [HV.out]
    have hb2 : Below w.heap.size w w2 := hb1.grown hg2 hb1.size (fun k hk => by injection hk with hk; omega)
    go_wp2_with (fail)
    refine (Rerr_c r _ _ hR2).mono ?_
    rintro e w3 ⟨rfl, rfl⟩
    go_wp2_with (fail)
    refine (fixed_c w2).mono ?_
    rintro e w3 ⟨rfl, hb3⟩
    go_wp2_with (fail)
    refine (Rleft_c r _ _ (hR2.below hb3)).mono ?_
    rintro e w4 ⟨rfl, q, rfl⟩
    go_wp2_with (fail)
    go_ret
    exact ⟨rfl, below_drewN (hb2.trans (hb3.mono hb2.size)) _⟩
  | ok x k =>
    obtain ⟨hu, hk, hk1⟩ := varGo_u64 hg
    have hv : varR ⟨bs, 0, 0⟩ = (x, ⟨bs, k, 0⟩) := by
      rw [varR, if_neg (by simp), List.drop_zero, hg]
      show (x, (⟨bs, 0 + k, 0⟩ : RS)) = _
      rw [Nat.zero_add]
    have ho := (varGo_one bs 0 x k hg).1
    have HV := Lib.hid hv; clear hv hg
    have HO := Lib.hid ho; clear ho
    have hlen := varL_len10 hu
    go_enter Try.func3, Try.ntmps3
    go_wp2_with (fail)
    refine (Rnew_c A _ c bs w rfl hr (by omega)).mono ?_
    rintro e w1 ⟨r, rfl, hr1, hR1, hb1⟩
    go_wp2_with (fail)
    refine (Rvar_c r _ _ hR1).mono ?_
    rintro e w2 ⟨rfl, hR2, hg2⟩
    rw [HV.out] at hR2
    rw [HV.out]
    have hb2 : Below w.heap.size w w2 := hb1.grown hg2 hb1.size (fun k hk => by injection hk with hk; omega)
    go_wp2_with (fail)
    refine (Rerr_c r _ _ hR2).mono ?_
    rintro e w3 ⟨rfl, rfl⟩
    go_wp2_with (fail)
    refine (Rleft_c r _ _ hR2).mono ?_
    rintro e w4 ⟨rfl, q, rfl⟩
    simp only []
    have hw : (bs.length : Int) - ((bs.length - k : Nat) : Int) = (k : Int) := by omega
    have hk2 : (0 : Int) < (k : Int) := by omega
    have hk3 : (k : Int) ≤ (bs.length : Int) := by omega
    have hk4 : 0 < k := by omega
    have hk5 : (k : Int) ≤ (c : Int) := by omega
    have hk6 : (0 : Int) ≤ (k : Int) := by omega
    go_wp2_with (fail)
    have hb3 : Below w.heap.size w (w2.drewN q) := below_drewN hb2 q
    have HR : Hid (∀ p : Nat, Rd (w2.drewN p) A ((varL x).map bv)) := fun p => by
      rw [← HO.out, List.map_take]; exact ((hr.below hb2).take k).drewN p
    have HL : Hid ((varL x).length = k) := by
      show _ = _
      rw [← HO.out, List.length_take]; omega
    have HM : Hid ((varL x).length ≤ maxLen) := by
      show _ ≤ _
      unfold maxLen; omega
    go_region_held3 (fun w' => True) (trivial) (first | (go_at_call 12; refine (fixed_c _).mono ?_; rintro e w4 ⟨rfl, hb4⟩) | (go_at_call 15; refine (Var_c x _ hu).mono ?_; rintro e w5 ⟨v, rfl, ho5, hb5⟩; obtain ⟨A5, c5, rfl, _, _, hr5, _⟩ := OwnB.form ho5; clear ho5) | (go_at_call 14; refine (Same_t A5 A _ _ _ _ (varL x) _ rfl HL.out hr5 ((HR.out (q + 1)).below (hb4.trans (hb5.mono hb4.size))) HM.out).mono ?_; rintro e w6 ⟨rfl, q6, rfl⟩))
    all_goals
      go_wp2
      go_ret
      have h4 := (below_drewN hb2 (q + 1)).trans (hb4.mono hb2.size)
      exact ⟨rfl, below_drewN (h4.trans (hb5.mono h4.size)) _⟩
end Go.Proofs.Ytacindehajholaa
