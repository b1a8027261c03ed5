/- The walk of the law ShaNone: it returns true. Conditions: the row's own; the table stands. -/
import Derived.Test.YtacindehajholaaDoorSl
namespace Go.Proofs.YtacindehajholaaDoor
open Go Go.RowKit
attribute [local go_sem] run_eq_sumV run_guard_sumV

set_option maxRecDepth 100000 in
set_option maxHeartbeats 2000000 in
theorem ShaNone_walk (w : World) (A : Option Addr) (n c : Nat) (bs : List UInt8) (hn : bs.length = n) (hr : Rd w A (bs.map bv)) (hc : n ≤ c) (hm : c ≤ maxLen) (hl : n ≤ 140737488351232)
    (A2 : Option Addr) (n2 c2 : Nat) (bs2 : List UInt8) (hn2 : bs2.length = n2) (hr2 : Rd w A2 (bs2.map bv)) (hc2 : n2 ≤ c2) (hm2 : c2 ≤ maxLen) (hl2 : n2 ≤ 140737488351232) (hT : Tab w) :
    Calls Tryd.prog 6 #[.slice A n c, .slice A2 n2 c2] w fun e w' => e = .returned (.bool true) ∧ Below w.heap.size w w' := by
  have HN := Lib.hid hn; clear hn
  have HN2 := Lib.hid hn2; clear hn2
  have HT := Lib.hid hT; clear hT
  by_cases hbig : 16384 < n
  · have hb : (16384 : Int) < (n : Int) := by omega
    go_enter Tryd.func6, Tryd.ntmps6
    go_wp2_with (fail)
    refine (fixed3_c _ HT.out).mono ?_
    rintro e w1 ⟨rfl, hb1⟩
    go_wp2_with (fail)
    go_ret
    exact ⟨rfl, hb1⟩
  · have hb : decide ((16384 : Int) < (n : Int)) = false := by simp; omega
    have hb' : (n : Int) ≤ 16384 := by omega
    by_cases hbig2 : 16384 < n2
    · have hb2 : decide ((16384 : Int) < (n2 : Int)) = true := by simp; omega
      go_enter Tryd.func6, Tryd.ntmps6
      go_wp2_with (fail)
      refine (fixed3_c _ HT.out).mono ?_
      rintro e w1 ⟨rfl, hb1⟩
      go_wp2_with (fail)
      go_ret
      exact ⟨rfl, hb1⟩
    · have hb2 : decide ((16384 : Int) < (n2 : Int)) = false := by simp; omega
      have hb2' : (n2 : Int) ≤ 16384 := by omega
      have hl3 : (bs ++ bs2).length ≤ 1000000000 := by rw [List.length_append, HN.out, HN2.out]; omega
      have HL3 := Lib.hid hl3; clear hl3
      go_enter Tryd.func6, Tryd.ntmps6
      go_wp2_with (fail)
      refine (fixed3_c _ HT.out).mono ?_
      rintro e w1 ⟨rfl, hb1⟩
      have s1 := hb1.size
      go_wp2_with (fail)
      have k1 : Below w.heap.size w (w1.alloc (.cells #[] 5)) := hb1.alloc s1 _
      have r5 := RdS_lit (w1.alloc (.cells #[] 5)) [(none, 0, 0), (A, n, c), (some ⟨w1.heap.size, 0, none⟩, 0, 0), (A2, n2, c2), (none, 0, 0)] [[], bs, [], bs2, []] 25 rfl (by
        simp only [List.zip_cons_cons, List.zip_nil_right, List.forall_mem_cons, List.length_nil, List.map_nil]
        exact ⟨⟨trivial, Rd.nil_, Nat.le_refl _, Nat.zero_le _⟩, ⟨HN.out, hr.below k1, hc, hm⟩, ⟨trivial, Rd.nil_, Nat.le_refl _, Nat.zero_le _⟩, ⟨HN2.out, hr2.below k1, hc2, hm2⟩, ⟨trivial, Rd.nil_, Nat.le_refl _, Nat.zero_le _⟩, fun x hx => by cases hx⟩)
      simp only [List.map_cons, List.map_nil, World.size_alloc] at r5
      have k2 := k1.alloc (by simp; omega) (.cells #[.slice none 0 0, .slice A n c, .slice (some ⟨w1.heap.size, 0, none⟩) 0 0, .slice A2 n2 c2, .slice none 0 0] 25)
      refine (Sum_v _ 5 5 [[], bs, [], bs2, []] (bs ++ bs2) _ rfl r5 (by omega) (by simp) HL3.out (Tab.below HT.out k2 HT.out.1)).mono ?_
      rintro e w2 ⟨rfl, hb2⟩
      have k3 := k2.trans (hb2.mono (by have := k2.size; exact this))
      have s3 := k3.size
      clear r5 k1 k2 hb1 hb2
      go_wp2_with (fail)
      have r2 := RdS_lit w2 [(A, n, c), (A2, n2, c2)] [bs, bs2] 25 rfl (by
        simp only [List.zip_cons_cons, List.zip_nil_right, List.forall_mem_cons]
        exact ⟨⟨HN.out, hr.below k3, hc, hm⟩, ⟨HN2.out, hr2.below k3, hc2, hm2⟩, fun x hx => by cases hx⟩)
      simp only [List.map_cons, List.map_nil] at r2
      have k4 := k3.alloc s3 (.cells #[.slice A n c, .slice A2 n2 c2] 25)
      refine (Sum_v _ 2 2 [bs, bs2] (bs ++ bs2) _ rfl r2 (by omega) (by simp) HL3.out (Tab.below HT.out k4 HT.out.1)).mono ?_
      rintro e w3 ⟨rfl, hb3⟩
      have k5 := k4.trans (hb3.mono (by have := k4.size; exact this))
      have s5 := k5.size
      clear r2 k3 k4 hb3
      go_wp2_with (fail)
      have r1 := RdS_lit (w3.alloc (.cells #[] 5)) [(some ⟨w3.heap.size, 0, none⟩, 0, 0)] [[]] 25 rfl (by
        simp only [List.zip_cons_cons, List.zip_nil_right, List.forall_mem_cons, List.length_nil, List.map_nil]
        exact ⟨⟨trivial, Rd.nil_, Nat.le_refl _, Nat.zero_le _⟩, fun x hx => by cases hx⟩)
      simp only [List.map_cons, List.map_nil, World.size_alloc] at r1
      have k6 := (k5.alloc s5 (.cells #[] 5)).alloc (by simp; omega) (.cells #[.slice (some ⟨w3.heap.size, 0, none⟩) 0 0] 25)
      refine (Sum_v _ 1 1 [[]] [] _ rfl r1 (by omega) (by simp) (by simp) (Tab.below HT.out k6 HT.out.1)).mono ?_
      rintro e w4 ⟨rfl, hb4⟩
      have k7 := k6.trans (hb4.mono (by have := k6.size; exact this))
      clear r1 k5 k6 hb4
      go_wp2_with (fail)
      refine (Sum_v none 0 0 [] [] _ rfl RdS.nil_ (by omega) rfl (by simp) (Tab.below HT.out k7 HT.out.1)).mono ?_
      rintro e w5 ⟨rfl, hb5⟩
      have k8 := k7.trans (hb5.mono k7.size)
      go_wp2_with (fail)
      go_ret
      exact ⟨rfl, k8⟩
end Go.Proofs.YtacindehajholaaDoor
