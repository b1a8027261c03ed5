/- What keys.May and the reference's May answer: whether an event may be. Conditions: none. -/
import Derived.Test.YtgnciejbhaebeaaKe0
namespace Go.Proofs.Ytgnciejbhaebeaa
open Go Go.RowKit

set_option maxRecDepth 100000 in
set_option maxHeartbeats 4000000 in
theorem May_c (k x y b : Int) (A : Option Addr) (n c : Nat) (w : World) : Calls Try.prog 22 #[.agg #[.int .i64 k, .slice A n c, .int .i64 x, .int .i64 y, .int .i64 b]] w fun r w' => r = .returned (.bool (mayB k x y b n)) ∧ Below w.heap.size w w' := by
  have kb : Below w.heap.size w (w.alloc (.cells #[.int .i64 k, .slice A n c, .int .i64 x, .int .i64 y, .int .i64 b] 36)) := (Below.refl _ _).alloc (Nat.le_refl _) _
  by_cases k1 : k = 1
  · subst k1
    by_cases h0 : x = 0
    · subst h0
      by_cases h1 : y = 0
      · subst h1
        by_cases h2 : b = 0
        · subst h2
          by_cases h3 : (1 : Int) ≤ (n : Int)
          · skip
            by_cases h4 : ((n : Int) : Int) ≤ 8
            · skip
              have hm : mayB 1 0 0 0 n = true := decide_eq_true (by unfold mayP; omega)
              rw [hm]; clear hm
              have d0 : decide ((1 : Int) ≤ (n : Int)) = true := decide_eq_true (by omega)
              have d1 : decide (((n : Int) : Int) ≤ 8) = true := decide_eq_true (by omega)
              clear h3 h4
              go_enter Try.func22, Try.ntmps22
              go_wp2
              go_ret
              exact ⟨rfl, kb⟩
            · skip
              have hm : mayB 1 0 0 0 n = false := decide_eq_false (by unfold mayP; omega)
              rw [hm]; clear hm
              have d0 : decide ((1 : Int) ≤ (n : Int)) = true := decide_eq_true (by omega)
              have d1 : decide (((n : Int) : Int) ≤ 8) = false := decide_eq_false (by omega)
              clear h3 h4
              go_enter Try.func22, Try.ntmps22
              go_wp2
              go_ret
              exact ⟨rfl, kb⟩
          · skip
            have hm : mayB 1 0 0 0 n = false := decide_eq_false (by unfold mayP; omega)
            rw [hm]; clear hm
            have d0 : decide ((1 : Int) ≤ (n : Int)) = false := decide_eq_false (by omega)
            clear h3
            go_enter Try.func22, Try.ntmps22
            go_wp2
            go_ret
            exact ⟨rfl, kb⟩
        · skip
          have hm : mayB 1 0 0 b n = false := decide_eq_false (by unfold mayP; omega)
          rw [hm]; clear hm
          have d0 : (b == 0) = false := by rw [beq_eq_false_iff_ne]; omega
          clear h2
          go_enter Try.func22, Try.ntmps22
          go_wp2
          go_ret
          exact ⟨rfl, kb⟩
      · skip
        have hm : mayB 1 0 y b n = false := decide_eq_false (by unfold mayP; omega)
        rw [hm]; clear hm
        have d0 : (y == 0) = false := by rw [beq_eq_false_iff_ne]; omega
        clear h1
        go_enter Try.func22, Try.ntmps22
        go_wp2
        go_ret
        exact ⟨rfl, kb⟩
    · skip
      have hm : mayB 1 x y b n = false := decide_eq_false (by unfold mayP; omega)
      rw [hm]; clear hm
      have d0 : (x == 0) = false := by rw [beq_eq_false_iff_ne]; omega
      clear h0
      go_enter Try.func22, Try.ntmps22
      go_wp2
      go_ret
      exact ⟨rfl, kb⟩
  have e1 : (k == 1) = false := by rw [beq_eq_false_iff_ne]; exact k1
  by_cases k2 : k = 2
  · subst k2
    clear k1 e1
    by_cases h0 : x = 0
    · subst h0
      by_cases h1 : y = 0
      · subst h1
        by_cases h2 : b = 0
        · subst h2
          by_cases h3 : ((n : Int) : Int) ≤ 64
          · skip
            have hm : mayB 2 0 0 0 n = true := decide_eq_true (by unfold mayP; omega)
            rw [hm]; clear hm
            have d0 : decide (((n : Int) : Int) ≤ 64) = true := decide_eq_true (by omega)
            clear h3
            go_enter Try.func22, Try.ntmps22
            go_wp2
            go_ret
            exact ⟨rfl, kb⟩
          · skip
            have hm : mayB 2 0 0 0 n = false := decide_eq_false (by unfold mayP; omega)
            rw [hm]; clear hm
            have d0 : decide (((n : Int) : Int) ≤ 64) = false := decide_eq_false (by omega)
            clear h3
            go_enter Try.func22, Try.ntmps22
            go_wp2
            go_ret
            exact ⟨rfl, kb⟩
        · skip
          have hm : mayB 2 0 0 b n = false := decide_eq_false (by unfold mayP; omega)
          rw [hm]; clear hm
          have d0 : (b == 0) = false := by rw [beq_eq_false_iff_ne]; omega
          clear h2
          go_enter Try.func22, Try.ntmps22
          go_wp2
          go_ret
          exact ⟨rfl, kb⟩
      · skip
        have hm : mayB 2 0 y b n = false := decide_eq_false (by unfold mayP; omega)
        rw [hm]; clear hm
        have d0 : (y == 0) = false := by rw [beq_eq_false_iff_ne]; omega
        clear h1
        go_enter Try.func22, Try.ntmps22
        go_wp2
        go_ret
        exact ⟨rfl, kb⟩
    · skip
      have hm : mayB 2 x y b n = false := decide_eq_false (by unfold mayP; omega)
      rw [hm]; clear hm
      have d0 : (x == 0) = false := by rw [beq_eq_false_iff_ne]; omega
      clear h0
      go_enter Try.func22, Try.ntmps22
      go_wp2
      go_ret
      exact ⟨rfl, kb⟩
  have e2 : (k == 2) = false := by rw [beq_eq_false_iff_ne]; exact k2
  by_cases k3 : k = 3
  · subst k3
    clear k1 e1 k2 e2
    by_cases h0 : n = 0
    · subst h0
      by_cases h1 : (0 : Int) ≤ x
      · skip
        by_cases h2 : (x : Int) < 80
        · skip
          by_cases h3 : (0 : Int) ≤ y
          · skip
            by_cases h4 : (y : Int) < 24
            · skip
              by_cases h5 : (0 : Int) ≤ b
              · skip
                by_cases h6 : (b : Int) ≤ 255
                · skip
                  have hm : mayB 3 x y b 0 = true := decide_eq_true (by unfold mayP; omega)
                  rw [hm]; clear hm
                  have d0 : decide ((0 : Int) ≤ x) = true := decide_eq_true (by omega)
                  have d1 : decide ((x : Int) < 80) = true := decide_eq_true (by omega)
                  have d2 : decide ((0 : Int) ≤ y) = true := decide_eq_true (by omega)
                  have d3 : decide ((y : Int) < 24) = true := decide_eq_true (by omega)
                  have d4 : decide ((0 : Int) ≤ b) = true := decide_eq_true (by omega)
                  have d5 : decide ((b : Int) ≤ 255) = true := decide_eq_true (by omega)
                  clear h1 h2 h3 h4 h5 h6
                  go_enter Try.func22, Try.ntmps22
                  go_wp2
                  go_ret
                  exact ⟨rfl, kb⟩
                · skip
                  have hm : mayB 3 x y b 0 = false := decide_eq_false (by unfold mayP; omega)
                  rw [hm]; clear hm
                  have d0 : decide ((0 : Int) ≤ x) = true := decide_eq_true (by omega)
                  have d1 : decide ((x : Int) < 80) = true := decide_eq_true (by omega)
                  have d2 : decide ((0 : Int) ≤ y) = true := decide_eq_true (by omega)
                  have d3 : decide ((y : Int) < 24) = true := decide_eq_true (by omega)
                  have d4 : decide ((0 : Int) ≤ b) = true := decide_eq_true (by omega)
                  have d5 : decide ((b : Int) ≤ 255) = false := decide_eq_false (by omega)
                  clear h1 h2 h3 h4 h5 h6
                  go_enter Try.func22, Try.ntmps22
                  go_wp2
                  go_ret
                  exact ⟨rfl, kb⟩
              · skip
                have hm : mayB 3 x y b 0 = false := decide_eq_false (by unfold mayP; omega)
                rw [hm]; clear hm
                have d0 : decide ((0 : Int) ≤ x) = true := decide_eq_true (by omega)
                have d1 : decide ((x : Int) < 80) = true := decide_eq_true (by omega)
                have d2 : decide ((0 : Int) ≤ y) = true := decide_eq_true (by omega)
                have d3 : decide ((y : Int) < 24) = true := decide_eq_true (by omega)
                have d4 : decide ((0 : Int) ≤ b) = false := decide_eq_false (by omega)
                clear h1 h2 h3 h4 h5
                go_enter Try.func22, Try.ntmps22
                go_wp2
                go_ret
                exact ⟨rfl, kb⟩
            · skip
              have hm : mayB 3 x y b 0 = false := decide_eq_false (by unfold mayP; omega)
              rw [hm]; clear hm
              have d0 : decide ((0 : Int) ≤ x) = true := decide_eq_true (by omega)
              have d1 : decide ((x : Int) < 80) = true := decide_eq_true (by omega)
              have d2 : decide ((0 : Int) ≤ y) = true := decide_eq_true (by omega)
              have d3 : decide ((y : Int) < 24) = false := decide_eq_false (by omega)
              clear h1 h2 h3 h4
              go_enter Try.func22, Try.ntmps22
              go_wp2
              go_ret
              exact ⟨rfl, kb⟩
          · skip
            have hm : mayB 3 x y b 0 = false := decide_eq_false (by unfold mayP; omega)
            rw [hm]; clear hm
            have d0 : decide ((0 : Int) ≤ x) = true := decide_eq_true (by omega)
            have d1 : decide ((x : Int) < 80) = true := decide_eq_true (by omega)
            have d2 : decide ((0 : Int) ≤ y) = false := decide_eq_false (by omega)
            clear h1 h2 h3
            go_enter Try.func22, Try.ntmps22
            go_wp2
            go_ret
            exact ⟨rfl, kb⟩
        · skip
          have hm : mayB 3 x y b 0 = false := decide_eq_false (by unfold mayP; omega)
          rw [hm]; clear hm
          have d0 : decide ((0 : Int) ≤ x) = true := decide_eq_true (by omega)
          have d1 : decide ((x : Int) < 80) = false := decide_eq_false (by omega)
          clear h1 h2
          go_enter Try.func22, Try.ntmps22
          go_wp2
          go_ret
          exact ⟨rfl, kb⟩
      · skip
        have hm : mayB 3 x y b 0 = false := decide_eq_false (by unfold mayP; omega)
        rw [hm]; clear hm
        have d0 : decide ((0 : Int) ≤ x) = false := decide_eq_false (by omega)
        clear h1
        go_enter Try.func22, Try.ntmps22
        go_wp2
        go_ret
        exact ⟨rfl, kb⟩
    · skip
      have hm : mayB 3 x y b n = false := decide_eq_false (by unfold mayP; omega)
      rw [hm]; clear hm
      have d0 : ((n : Int) == 0) = false := by rw [beq_eq_false_iff_ne]; omega
      clear h0
      go_enter Try.func22, Try.ntmps22
      go_wp2
      go_ret
      exact ⟨rfl, kb⟩
  have e3 : (k == 3) = false := by rw [beq_eq_false_iff_ne]; exact k3
  by_cases k4 : k = 4
  · subst k4
    clear k1 e1 k2 e2 k3 e3
    by_cases h0 : n = 0
    · subst h0
      by_cases h1 : b = 0
      · subst h1
        by_cases h2 : (1 : Int) ≤ x
        · skip
          by_cases h3 : (x : Int) ≤ 80
          · skip
            by_cases h4 : (1 : Int) ≤ y
            · skip
              by_cases h5 : (y : Int) ≤ 24
              · skip
                have hm : mayB 4 x y 0 0 = true := decide_eq_true (by unfold mayP; omega)
                rw [hm]; clear hm
                have d0 : decide ((1 : Int) ≤ x) = true := decide_eq_true (by omega)
                have d1 : decide ((x : Int) ≤ 80) = true := decide_eq_true (by omega)
                have d2 : decide ((1 : Int) ≤ y) = true := decide_eq_true (by omega)
                have d3 : decide ((y : Int) ≤ 24) = true := decide_eq_true (by omega)
                clear h2 h3 h4 h5
                go_enter Try.func22, Try.ntmps22
                go_wp2
                go_ret
                exact ⟨rfl, kb⟩
              · skip
                have hm : mayB 4 x y 0 0 = false := decide_eq_false (by unfold mayP; omega)
                rw [hm]; clear hm
                have d0 : decide ((1 : Int) ≤ x) = true := decide_eq_true (by omega)
                have d1 : decide ((x : Int) ≤ 80) = true := decide_eq_true (by omega)
                have d2 : decide ((1 : Int) ≤ y) = true := decide_eq_true (by omega)
                have d3 : decide ((y : Int) ≤ 24) = false := decide_eq_false (by omega)
                clear h2 h3 h4 h5
                go_enter Try.func22, Try.ntmps22
                go_wp2
                go_ret
                exact ⟨rfl, kb⟩
            · skip
              have hm : mayB 4 x y 0 0 = false := decide_eq_false (by unfold mayP; omega)
              rw [hm]; clear hm
              have d0 : decide ((1 : Int) ≤ x) = true := decide_eq_true (by omega)
              have d1 : decide ((x : Int) ≤ 80) = true := decide_eq_true (by omega)
              have d2 : decide ((1 : Int) ≤ y) = false := decide_eq_false (by omega)
              clear h2 h3 h4
              go_enter Try.func22, Try.ntmps22
              go_wp2
              go_ret
              exact ⟨rfl, kb⟩
          · skip
            have hm : mayB 4 x y 0 0 = false := decide_eq_false (by unfold mayP; omega)
            rw [hm]; clear hm
            have d0 : decide ((1 : Int) ≤ x) = true := decide_eq_true (by omega)
            have d1 : decide ((x : Int) ≤ 80) = false := decide_eq_false (by omega)
            clear h2 h3
            go_enter Try.func22, Try.ntmps22
            go_wp2
            go_ret
            exact ⟨rfl, kb⟩
        · skip
          have hm : mayB 4 x y 0 0 = false := decide_eq_false (by unfold mayP; omega)
          rw [hm]; clear hm
          have d0 : decide ((1 : Int) ≤ x) = false := decide_eq_false (by omega)
          clear h2
          go_enter Try.func22, Try.ntmps22
          go_wp2
          go_ret
          exact ⟨rfl, kb⟩
      · skip
        have hm : mayB 4 x y b 0 = false := decide_eq_false (by unfold mayP; omega)
        rw [hm]; clear hm
        have d0 : (b == 0) = false := by rw [beq_eq_false_iff_ne]; omega
        clear h1
        go_enter Try.func22, Try.ntmps22
        go_wp2
        go_ret
        exact ⟨rfl, kb⟩
    · skip
      have hm : mayB 4 x y b n = false := decide_eq_false (by unfold mayP; omega)
      rw [hm]; clear hm
      have d0 : ((n : Int) == 0) = false := by rw [beq_eq_false_iff_ne]; omega
      clear h0
      go_enter Try.func22, Try.ntmps22
      go_wp2
      go_ret
      exact ⟨rfl, kb⟩
  have e4 : (k == 4) = false := by rw [beq_eq_false_iff_ne]; exact k4
  have hm : mayB k x y b n = false := decide_eq_false (by unfold mayP; omega)
  rw [hm]; clear hm
  clear k1 k2 k3 k4
  go_enter Try.func22, Try.ntmps22
  go_wp2
  go_ret
  exact ⟨rfl, kb⟩

set_option maxRecDepth 100000 in
set_option maxHeartbeats 4000000 in
theorem refMay_c (k x y b : Int) (A : Option Addr) (n c : Nat) (w : World) : Calls Try.prog 23 #[.agg #[.int .i64 k, .slice A n c, .int .i64 x, .int .i64 y, .int .i64 b]] w fun r w' => r = .returned (.bool (mayB k x y b n)) ∧ Below w.heap.size w w' := by
  have kb : Below w.heap.size w (w.alloc (.cells #[.int .i64 k, .slice A n c, .int .i64 x, .int .i64 y, .int .i64 b] 36)) := (Below.refl _ _).alloc (Nat.le_refl _) _
  by_cases k1 : k = 1
  · subst k1
    by_cases h0 : x = 0
    · subst h0
      by_cases h1 : y = 0
      · subst h1
        by_cases h2 : b = 0
        · subst h2
          by_cases h3 : n = 0
          · subst h3
            have hm : mayB 1 0 0 0 0 = false := decide_eq_false (by unfold mayP; omega)
            rw [hm]; clear hm
            go_enter Try.func23, Try.ntmps23
            go_wp2
            go_ret
            exact ⟨rfl, kb⟩
          · have hn0 : 0 < n := by omega
            by_cases h4 : ((n : Int) : Int) < 9
            · skip
              have hm : mayB 1 0 0 0 n = true := decide_eq_true (by unfold mayP; omega)
              rw [hm]; clear hm
              have d0 : decide (((n : Int) : Int) < 9) = true := decide_eq_true (by omega)
              clear h3 h4
              go_enter Try.func23, Try.ntmps23
              go_wp2
              go_ret
              exact ⟨rfl, kb⟩
            · skip
              have hm : mayB 1 0 0 0 n = false := decide_eq_false (by unfold mayP; omega)
              rw [hm]; clear hm
              have d0 : decide (((n : Int) : Int) < 9) = false := decide_eq_false (by omega)
              clear h3 h4
              go_enter Try.func23, Try.ntmps23
              go_wp2
              go_ret
              exact ⟨rfl, kb⟩
        · skip
          have hm : mayB 1 0 0 b n = false := decide_eq_false (by unfold mayP; omega)
          rw [hm]; clear hm
          have d0 : (b == 0) = false := by rw [beq_eq_false_iff_ne]; omega
          clear h2
          go_enter Try.func23, Try.ntmps23
          go_wp2
          go_ret
          exact ⟨rfl, kb⟩
      · skip
        have hm : mayB 1 0 y b n = false := decide_eq_false (by unfold mayP; omega)
        rw [hm]; clear hm
        have d0 : (y == 0) = false := by rw [beq_eq_false_iff_ne]; omega
        clear h1
        go_enter Try.func23, Try.ntmps23
        go_wp2
        go_ret
        exact ⟨rfl, kb⟩
    · skip
      have hm : mayB 1 x y b n = false := decide_eq_false (by unfold mayP; omega)
      rw [hm]; clear hm
      have d0 : (x == 0) = false := by rw [beq_eq_false_iff_ne]; omega
      clear h0
      go_enter Try.func23, Try.ntmps23
      go_wp2
      go_ret
      exact ⟨rfl, kb⟩
  have e1 : (k == 1) = false := by rw [beq_eq_false_iff_ne]; exact k1
  by_cases k2 : k = 2
  · subst k2
    clear k1 e1
    by_cases h0 : x = 0
    · subst h0
      by_cases h1 : y = 0
      · subst h1
        by_cases h2 : b = 0
        · subst h2
          by_cases h3 : ((n : Int) : Int) < 65
          · skip
            have hm : mayB 2 0 0 0 n = true := decide_eq_true (by unfold mayP; omega)
            rw [hm]; clear hm
            have d0 : decide (((n : Int) : Int) < 65) = true := decide_eq_true (by omega)
            clear h3
            go_enter Try.func23, Try.ntmps23
            go_wp2
            go_ret
            exact ⟨rfl, kb⟩
          · skip
            have hm : mayB 2 0 0 0 n = false := decide_eq_false (by unfold mayP; omega)
            rw [hm]; clear hm
            have d0 : decide (((n : Int) : Int) < 65) = false := decide_eq_false (by omega)
            clear h3
            go_enter Try.func23, Try.ntmps23
            go_wp2
            go_ret
            exact ⟨rfl, kb⟩
        · skip
          have hm : mayB 2 0 0 b n = false := decide_eq_false (by unfold mayP; omega)
          rw [hm]; clear hm
          have d0 : (b == 0) = false := by rw [beq_eq_false_iff_ne]; omega
          clear h2
          go_enter Try.func23, Try.ntmps23
          go_wp2
          go_ret
          exact ⟨rfl, kb⟩
      · skip
        have hm : mayB 2 0 y b n = false := decide_eq_false (by unfold mayP; omega)
        rw [hm]; clear hm
        have d0 : (y == 0) = false := by rw [beq_eq_false_iff_ne]; omega
        clear h1
        go_enter Try.func23, Try.ntmps23
        go_wp2
        go_ret
        exact ⟨rfl, kb⟩
    · skip
      have hm : mayB 2 x y b n = false := decide_eq_false (by unfold mayP; omega)
      rw [hm]; clear hm
      have d0 : (x == 0) = false := by rw [beq_eq_false_iff_ne]; omega
      clear h0
      go_enter Try.func23, Try.ntmps23
      go_wp2
      go_ret
      exact ⟨rfl, kb⟩
  have e2 : (k == 2) = false := by rw [beq_eq_false_iff_ne]; exact k2
  by_cases k3 : k = 3
  · subst k3
    clear k1 e1 k2 e2
    have pl : ∀ q : Prop, q → q := fun _ h => h
    clear pl
    by_cases px : x = 0
    · subst px
      by_cases py : y = 0
      · subst py
        by_cases h0 : n = 0
        · subst h0
          by_cases h5 : (0 : Int) ≤ b
          · skip
            by_cases h6 : (b : Int) < 256
            · skip
              have hm : mayB 3 0 0 b 0 = true := decide_eq_true (by unfold mayP; omega)
              rw [hm]; clear hm
              have d0 : decide ((0 : Int) ≤ b) = true := decide_eq_true (by omega)
              have d1 : decide ((b : Int) < 256) = true := decide_eq_true (by omega)
              clear h5 h6
              go_enter Try.func23, Try.ntmps23
              go_wp2
              go_ret
              exact ⟨rfl, kb⟩
            · skip
              have hm : mayB 3 0 0 b 0 = false := decide_eq_false (by unfold mayP; omega)
              rw [hm]; clear hm
              have d0 : decide ((0 : Int) ≤ b) = true := decide_eq_true (by omega)
              have d1 : decide ((b : Int) < 256) = false := decide_eq_false (by omega)
              clear h5 h6
              go_enter Try.func23, Try.ntmps23
              go_wp2
              go_ret
              exact ⟨rfl, kb⟩
          · skip
            have hm : mayB 3 0 0 b 0 = false := decide_eq_false (by unfold mayP; omega)
            rw [hm]; clear hm
            have d0 : decide ((0 : Int) ≤ b) = false := decide_eq_false (by omega)
            clear h5
            go_enter Try.func23, Try.ntmps23
            go_wp2
            go_ret
            exact ⟨rfl, kb⟩
        · skip
          have hm : mayB 3 0 0 b n = false := decide_eq_false (by unfold mayP; omega)
          rw [hm]; clear hm
          have d0 : ((n : Int) == 0) = false := by rw [beq_eq_false_iff_ne]; omega
          clear h0
          go_enter Try.func23, Try.ntmps23
          go_wp2
          go_ret
          exact ⟨rfl, kb⟩
      · have py' : (y == 0) = false := by rw [beq_eq_false_iff_ne]; exact py
        by_cases h0 : n = 0
        · subst h0
          by_cases h3 : (0 : Int) ≤ y
          · skip
            by_cases h4 : (y : Int) ≤ 23
            · skip
              by_cases h5 : (0 : Int) ≤ b
              · skip
                by_cases h6 : (b : Int) < 256
                · skip
                  have hm : mayB 3 0 y b 0 = true := decide_eq_true (by unfold mayP; omega)
                  rw [hm]; clear hm
                  have d0 : decide ((0 : Int) ≤ y) = true := decide_eq_true (by omega)
                  have d1 : decide ((y : Int) ≤ 23) = true := decide_eq_true (by omega)
                  have d2 : decide ((0 : Int) ≤ b) = true := decide_eq_true (by omega)
                  have d3 : decide ((b : Int) < 256) = true := decide_eq_true (by omega)
                  clear py h3 h4 h5 h6
                  go_enter Try.func23, Try.ntmps23
                  go_wp2
                  go_ret
                  exact ⟨rfl, kb⟩
                · skip
                  have hm : mayB 3 0 y b 0 = false := decide_eq_false (by unfold mayP; omega)
                  rw [hm]; clear hm
                  have d0 : decide ((0 : Int) ≤ y) = true := decide_eq_true (by omega)
                  have d1 : decide ((y : Int) ≤ 23) = true := decide_eq_true (by omega)
                  have d2 : decide ((0 : Int) ≤ b) = true := decide_eq_true (by omega)
                  have d3 : decide ((b : Int) < 256) = false := decide_eq_false (by omega)
                  clear py h3 h4 h5 h6
                  go_enter Try.func23, Try.ntmps23
                  go_wp2
                  go_ret
                  exact ⟨rfl, kb⟩
              · skip
                have hm : mayB 3 0 y b 0 = false := decide_eq_false (by unfold mayP; omega)
                rw [hm]; clear hm
                have d0 : decide ((0 : Int) ≤ y) = true := decide_eq_true (by omega)
                have d1 : decide ((y : Int) ≤ 23) = true := decide_eq_true (by omega)
                have d2 : decide ((0 : Int) ≤ b) = false := decide_eq_false (by omega)
                clear py h3 h4 h5
                go_enter Try.func23, Try.ntmps23
                go_wp2
                go_ret
                exact ⟨rfl, kb⟩
            · skip
              have hm : mayB 3 0 y b 0 = false := decide_eq_false (by unfold mayP; omega)
              rw [hm]; clear hm
              have d0 : decide ((0 : Int) ≤ y) = true := decide_eq_true (by omega)
              have d1 : decide ((y : Int) ≤ 23) = false := decide_eq_false (by omega)
              clear py h3 h4
              go_enter Try.func23, Try.ntmps23
              go_wp2
              go_ret
              exact ⟨rfl, kb⟩
          · skip
            have hm : mayB 3 0 y b 0 = false := decide_eq_false (by unfold mayP; omega)
            rw [hm]; clear hm
            have d0 : decide ((0 : Int) ≤ y) = false := decide_eq_false (by omega)
            clear py h3
            go_enter Try.func23, Try.ntmps23
            go_wp2
            go_ret
            exact ⟨rfl, kb⟩
        · skip
          have hm : mayB 3 0 y b n = false := decide_eq_false (by unfold mayP; omega)
          rw [hm]; clear hm
          have d0 : ((n : Int) == 0) = false := by rw [beq_eq_false_iff_ne]; omega
          clear py h0
          go_enter Try.func23, Try.ntmps23
          go_wp2
          go_ret
          exact ⟨rfl, kb⟩
    · have px' : (x == 0) = false := by rw [beq_eq_false_iff_ne]; exact px
      by_cases h0 : n = 0
      · subst h0
        by_cases h1 : (0 : Int) ≤ x
        · skip
          by_cases h2 : (x : Int) ≤ 79
          · skip
            by_cases h3 : (0 : Int) ≤ y
            · skip
              by_cases h4 : (y : Int) ≤ 23
              · skip
                by_cases h5 : (0 : Int) ≤ b
                · skip
                  by_cases h6 : (b : Int) < 256
                  · skip
                    have hm : mayB 3 x y b 0 = true := decide_eq_true (by unfold mayP; omega)
                    rw [hm]; clear hm
                    have d0 : decide ((0 : Int) ≤ x) = true := decide_eq_true (by omega)
                    have d1 : decide ((x : Int) ≤ 79) = true := decide_eq_true (by omega)
                    have d2 : decide ((0 : Int) ≤ y) = true := decide_eq_true (by omega)
                    have d3 : decide ((y : Int) ≤ 23) = true := decide_eq_true (by omega)
                    have d4 : decide ((0 : Int) ≤ b) = true := decide_eq_true (by omega)
                    have d5 : decide ((b : Int) < 256) = true := decide_eq_true (by omega)
                    clear px h1 h2 h3 h4 h5 h6
                    go_enter Try.func23, Try.ntmps23
                    go_wp2
                    go_ret
                    exact ⟨rfl, kb⟩
                  · skip
                    have hm : mayB 3 x y b 0 = false := decide_eq_false (by unfold mayP; omega)
                    rw [hm]; clear hm
                    have d0 : decide ((0 : Int) ≤ x) = true := decide_eq_true (by omega)
                    have d1 : decide ((x : Int) ≤ 79) = true := decide_eq_true (by omega)
                    have d2 : decide ((0 : Int) ≤ y) = true := decide_eq_true (by omega)
                    have d3 : decide ((y : Int) ≤ 23) = true := decide_eq_true (by omega)
                    have d4 : decide ((0 : Int) ≤ b) = true := decide_eq_true (by omega)
                    have d5 : decide ((b : Int) < 256) = false := decide_eq_false (by omega)
                    clear px h1 h2 h3 h4 h5 h6
                    go_enter Try.func23, Try.ntmps23
                    go_wp2
                    go_ret
                    exact ⟨rfl, kb⟩
                · skip
                  have hm : mayB 3 x y b 0 = false := decide_eq_false (by unfold mayP; omega)
                  rw [hm]; clear hm
                  have d0 : decide ((0 : Int) ≤ x) = true := decide_eq_true (by omega)
                  have d1 : decide ((x : Int) ≤ 79) = true := decide_eq_true (by omega)
                  have d2 : decide ((0 : Int) ≤ y) = true := decide_eq_true (by omega)
                  have d3 : decide ((y : Int) ≤ 23) = true := decide_eq_true (by omega)
                  have d4 : decide ((0 : Int) ≤ b) = false := decide_eq_false (by omega)
                  clear px h1 h2 h3 h4 h5
                  go_enter Try.func23, Try.ntmps23
                  go_wp2
                  go_ret
                  exact ⟨rfl, kb⟩
              · skip
                have hm : mayB 3 x y b 0 = false := decide_eq_false (by unfold mayP; omega)
                rw [hm]; clear hm
                have d0 : decide ((0 : Int) ≤ x) = true := decide_eq_true (by omega)
                have d1 : decide ((x : Int) ≤ 79) = true := decide_eq_true (by omega)
                have d2 : decide ((0 : Int) ≤ y) = true := decide_eq_true (by omega)
                have d3 : decide ((y : Int) ≤ 23) = false := decide_eq_false (by omega)
                clear px h1 h2 h3 h4
                go_enter Try.func23, Try.ntmps23
                go_wp2
                go_ret
                exact ⟨rfl, kb⟩
            · skip
              have hm : mayB 3 x y b 0 = false := decide_eq_false (by unfold mayP; omega)
              rw [hm]; clear hm
              have d0 : decide ((0 : Int) ≤ x) = true := decide_eq_true (by omega)
              have d1 : decide ((x : Int) ≤ 79) = true := decide_eq_true (by omega)
              have d2 : decide ((0 : Int) ≤ y) = false := decide_eq_false (by omega)
              clear px h1 h2 h3
              go_enter Try.func23, Try.ntmps23
              go_wp2
              go_ret
              exact ⟨rfl, kb⟩
          · skip
            have hm : mayB 3 x y b 0 = false := decide_eq_false (by unfold mayP; omega)
            rw [hm]; clear hm
            have d0 : decide ((0 : Int) ≤ x) = true := decide_eq_true (by omega)
            have d1 : decide ((x : Int) ≤ 79) = false := decide_eq_false (by omega)
            clear px h1 h2
            go_enter Try.func23, Try.ntmps23
            go_wp2
            go_ret
            exact ⟨rfl, kb⟩
        · skip
          have hm : mayB 3 x y b 0 = false := decide_eq_false (by unfold mayP; omega)
          rw [hm]; clear hm
          have d0 : decide ((0 : Int) ≤ x) = false := decide_eq_false (by omega)
          clear px h1
          go_enter Try.func23, Try.ntmps23
          go_wp2
          go_ret
          exact ⟨rfl, kb⟩
      · skip
        have hm : mayB 3 x y b n = false := decide_eq_false (by unfold mayP; omega)
        rw [hm]; clear hm
        have d0 : ((n : Int) == 0) = false := by rw [beq_eq_false_iff_ne]; omega
        clear px h0
        go_enter Try.func23, Try.ntmps23
        go_wp2
        go_ret
        exact ⟨rfl, kb⟩
  have e3 : (k == 3) = false := by rw [beq_eq_false_iff_ne]; exact k3
  by_cases k4 : k = 4
  · subst k4
    clear k1 e1 k2 e2 k3 e3
    have pl : ∀ q : Prop, q → q := fun _ h => h
    clear pl
    by_cases px : x = 0
    · subst px
      by_cases py : y = 0
      · subst py
        by_cases h0 : n = 0
        · subst h0
          by_cases h1 : b = 0
          · subst h1
            have hm : mayB 4 0 0 0 0 = false := decide_eq_false (by unfold mayP; omega)
            rw [hm]; clear hm
            go_enter Try.func23, Try.ntmps23
            go_wp2
            go_ret
            exact ⟨rfl, kb⟩
          · skip
            have hm : mayB 4 0 0 b 0 = false := decide_eq_false (by unfold mayP; omega)
            rw [hm]; clear hm
            have d0 : (b == 0) = false := by rw [beq_eq_false_iff_ne]; omega
            clear h1
            go_enter Try.func23, Try.ntmps23
            go_wp2
            go_ret
            exact ⟨rfl, kb⟩
        · skip
          have hm : mayB 4 0 0 b n = false := decide_eq_false (by unfold mayP; omega)
          rw [hm]; clear hm
          have d0 : ((n : Int) == 0) = false := by rw [beq_eq_false_iff_ne]; omega
          clear h0
          go_enter Try.func23, Try.ntmps23
          go_wp2
          go_ret
          exact ⟨rfl, kb⟩
      · have py' : (y == 0) = false := by rw [beq_eq_false_iff_ne]; exact py
        by_cases h0 : n = 0
        · subst h0
          by_cases h1 : b = 0
          · subst h1
            have hm : mayB 4 0 y 0 0 = false := decide_eq_false (by unfold mayP; omega)
            rw [hm]; clear hm
            clear py
            go_enter Try.func23, Try.ntmps23
            go_wp2
            go_ret
            exact ⟨rfl, kb⟩
          · skip
            have hm : mayB 4 0 y b 0 = false := decide_eq_false (by unfold mayP; omega)
            rw [hm]; clear hm
            have d0 : (b == 0) = false := by rw [beq_eq_false_iff_ne]; omega
            clear py h1
            go_enter Try.func23, Try.ntmps23
            go_wp2
            go_ret
            exact ⟨rfl, kb⟩
        · skip
          have hm : mayB 4 0 y b n = false := decide_eq_false (by unfold mayP; omega)
          rw [hm]; clear hm
          have d0 : ((n : Int) == 0) = false := by rw [beq_eq_false_iff_ne]; omega
          clear py h0
          go_enter Try.func23, Try.ntmps23
          go_wp2
          go_ret
          exact ⟨rfl, kb⟩
    · have px' : (x == 0) = false := by rw [beq_eq_false_iff_ne]; exact px
      by_cases h0 : n = 0
      · subst h0
        by_cases h1 : b = 0
        · subst h1
          by_cases h2 : (0 : Int) < x
          · skip
            by_cases h3 : (x : Int) ≤ 80
            · skip
              by_cases h4 : (0 : Int) < y
              · skip
                by_cases h5 : (y : Int) ≤ 24
                · skip
                  have hm : mayB 4 x y 0 0 = true := decide_eq_true (by unfold mayP; omega)
                  rw [hm]; clear hm
                  have d0 : decide ((0 : Int) < x) = true := decide_eq_true (by omega)
                  have d1 : decide ((x : Int) ≤ 80) = true := decide_eq_true (by omega)
                  have d2 : decide ((0 : Int) < y) = true := decide_eq_true (by omega)
                  have d3 : decide ((y : Int) ≤ 24) = true := decide_eq_true (by omega)
                  clear px h2 h3 h4 h5
                  go_enter Try.func23, Try.ntmps23
                  go_wp2
                  go_ret
                  exact ⟨rfl, kb⟩
                · skip
                  have hm : mayB 4 x y 0 0 = false := decide_eq_false (by unfold mayP; omega)
                  rw [hm]; clear hm
                  have d0 : decide ((0 : Int) < x) = true := decide_eq_true (by omega)
                  have d1 : decide ((x : Int) ≤ 80) = true := decide_eq_true (by omega)
                  have d2 : decide ((0 : Int) < y) = true := decide_eq_true (by omega)
                  have d3 : decide ((y : Int) ≤ 24) = false := decide_eq_false (by omega)
                  clear px h2 h3 h4 h5
                  go_enter Try.func23, Try.ntmps23
                  go_wp2
                  go_ret
                  exact ⟨rfl, kb⟩
              · skip
                have hm : mayB 4 x y 0 0 = false := decide_eq_false (by unfold mayP; omega)
                rw [hm]; clear hm
                have d0 : decide ((0 : Int) < x) = true := decide_eq_true (by omega)
                have d1 : decide ((x : Int) ≤ 80) = true := decide_eq_true (by omega)
                have d2 : decide ((0 : Int) < y) = false := decide_eq_false (by omega)
                clear px h2 h3 h4
                go_enter Try.func23, Try.ntmps23
                go_wp2
                go_ret
                exact ⟨rfl, kb⟩
            · skip
              have hm : mayB 4 x y 0 0 = false := decide_eq_false (by unfold mayP; omega)
              rw [hm]; clear hm
              have d0 : decide ((0 : Int) < x) = true := decide_eq_true (by omega)
              have d1 : decide ((x : Int) ≤ 80) = false := decide_eq_false (by omega)
              clear px h2 h3
              go_enter Try.func23, Try.ntmps23
              go_wp2
              go_ret
              exact ⟨rfl, kb⟩
          · skip
            have hm : mayB 4 x y 0 0 = false := decide_eq_false (by unfold mayP; omega)
            rw [hm]; clear hm
            have d0 : decide ((0 : Int) < x) = false := decide_eq_false (by omega)
            clear px h2
            go_enter Try.func23, Try.ntmps23
            go_wp2
            go_ret
            exact ⟨rfl, kb⟩
        · skip
          have hm : mayB 4 x y b 0 = false := decide_eq_false (by unfold mayP; omega)
          rw [hm]; clear hm
          have d0 : (b == 0) = false := by rw [beq_eq_false_iff_ne]; omega
          clear px h1
          go_enter Try.func23, Try.ntmps23
          go_wp2
          go_ret
          exact ⟨rfl, kb⟩
      · skip
        have hm : mayB 4 x y b n = false := decide_eq_false (by unfold mayP; omega)
        rw [hm]; clear hm
        have d0 : ((n : Int) == 0) = false := by rw [beq_eq_false_iff_ne]; omega
        clear px h0
        go_enter Try.func23, Try.ntmps23
        go_wp2
        go_ret
        exact ⟨rfl, kb⟩
  have e4 : (k == 4) = false := by rw [beq_eq_false_iff_ne]; exact k4
  by_cases px : x = 0
  · subst px
    by_cases py : y = 0
    · subst py
      have hm : mayB k 0 0 b n = false := decide_eq_false (by unfold mayP; omega)
      rw [hm]; clear hm
      clear k1 k2 k3 k4
      go_enter Try.func23, Try.ntmps23
      go_wp2
      go_ret
      exact ⟨rfl, kb⟩
    · have py' : (y == 0) = false := by rw [beq_eq_false_iff_ne]; exact py
      have hm : mayB k 0 y b n = false := decide_eq_false (by unfold mayP; omega)
      rw [hm]; clear hm
      clear k1 k2 k3 k4 py
      go_enter Try.func23, Try.ntmps23
      go_wp2
      go_ret
      exact ⟨rfl, kb⟩
  · have px' : (x == 0) = false := by rw [beq_eq_false_iff_ne]; exact px
    have hm : mayB k x y b n = false := decide_eq_false (by unfold mayP; omega)
    rw [hm]; clear hm
    clear k1 k2 k3 k4 px
    go_enter Try.func23, Try.ntmps23
    go_wp2
    go_ret
    exact ⟨rfl, kb⟩
end Go.Proofs.Ytgnciejbhaebeaa
