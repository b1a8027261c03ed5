/- Parts one behind the other: What keys.May and the reference's May answer: whether an event may be; What keys.numbers.put and the reference's lay answer: a number in a version's way; and which event may not be; The bytes of a batch of events, in plain words; What an inbox and a nil queue answer; What tlv.lay answers: a list's bytes; What the reference's row answers; What the reference's Small answers: true only of few items whose bytes are few. Conditions: as told at each. -/
import Derived.Test.YtgnciejbhaebeaaPTlvUnknown1
import Derived.Test.YtgnciejbhaebeaaPTlvUnknown2
import Derived.Test.YtgnciejbhaebeaaPTlvUnknown3

/- What keys.May and the reference's May answer: whether an event may be. Conditions: none. -/
namespace Go.Proofs.Ytgnciejbhaebeaa
open Go Go.RowKit

set_option maxRecDepth 100000 in
set_option maxHeartbeats 4000000 in
theorem May_c (k x y b : Int) (A : Option Addr) (n c : Nat) (w : World) : Calls Try.prog 22 #[.agg #[.int .i64 k, .slice A n c, .int .i64 x, .int .i64 y, .int .i64 b]] w fun r w' => r = .returned (.bool (mayB k x y b n)) ∧ Below w.heap.size w w' := by
  have kb : Below w.heap.size w (w.alloc (.cells #[.int .i64 k, .slice A n c, .int .i64 x, .int .i64 y, .int .i64 b] 36)) := (Below.refl _ _).alloc (Nat.le_refl _) _
  by_cases k1 : k = 1
  · subst k1
    by_cases h0 : x = 0
    · subst h0
      by_cases h1 : y = 0
      · subst h1
        by_cases h2 : b = 0
        · subst h2
          by_cases h3 : (1 : Int) ≤ (n : Int)
          · skip
            by_cases h4 : ((n : Int) : Int) ≤ 8
            · skip
              have hm : mayB 1 0 0 0 n = true := decide_eq_true (by unfold mayP; omega)
              rw [hm]; clear hm
              have d0 : decide ((1 : Int) ≤ (n : Int)) = true := decide_eq_true (by omega)
              have d1 : decide (((n : Int) : Int) ≤ 8) = true := decide_eq_true (by omega)
              clear h3 h4
              go_enter Try.func22, Try.ntmps22
              go_wp2
              go_ret
              exact ⟨rfl, kb⟩
            · skip
              have hm : mayB 1 0 0 0 n = false := decide_eq_false (by unfold mayP; omega)
              rw [hm]; clear hm
              have d0 : decide ((1 : Int) ≤ (n : Int)) = true := decide_eq_true (by omega)
              have d1 : decide (((n : Int) : Int) ≤ 8) = false := decide_eq_false (by omega)
              clear h3 h4
              go_enter Try.func22, Try.ntmps22
              go_wp2
              go_ret
              exact ⟨rfl, kb⟩
          · skip
            have hm : mayB 1 0 0 0 n = false := decide_eq_false (by unfold mayP; omega)
            rw [hm]; clear hm
            have d0 : decide ((1 : Int) ≤ (n : Int)) = false := decide_eq_false (by omega)
            clear h3
            go_enter Try.func22, Try.ntmps22
            go_wp2
            go_ret
            exact ⟨rfl, kb⟩
        · skip
          have hm : mayB 1 0 0 b n = false := decide_eq_false (by unfold mayP; omega)
          rw [hm]; clear hm
          have d0 : (b == 0) = false := by rw [beq_eq_false_iff_ne]; omega
          clear h2
          go_enter Try.func22, Try.ntmps22
          go_wp2
          go_ret
          exact ⟨rfl, kb⟩
      · skip
        have hm : mayB 1 0 y b n = false := decide_eq_false (by unfold mayP; omega)
        rw [hm]; clear hm
        have d0 : (y == 0) = false := by rw [beq_eq_false_iff_ne]; omega
        clear h1
        go_enter Try.func22, Try.ntmps22
        go_wp2
        go_ret
        exact ⟨rfl, kb⟩
    · skip
      have hm : mayB 1 x y b n = false := decide_eq_false (by unfold mayP; omega)
      rw [hm]; clear hm
      have d0 : (x == 0) = false := by rw [beq_eq_false_iff_ne]; omega
      clear h0
      go_enter Try.func22, Try.ntmps22
      go_wp2
      go_ret
      exact ⟨rfl, kb⟩
  have e1 : (k == 1) = false := by rw [beq_eq_false_iff_ne]; exact k1
  by_cases k2 : k = 2
  · subst k2
    clear k1 e1
    by_cases h0 : x = 0
    · subst h0
      by_cases h1 : y = 0
      · subst h1
        by_cases h2 : b = 0
        · subst h2
          by_cases h3 : ((n : Int) : Int) ≤ 64
          · skip
            have hm : mayB 2 0 0 0 n = true := decide_eq_true (by unfold mayP; omega)
            rw [hm]; clear hm
            have d0 : decide (((n : Int) : Int) ≤ 64) = true := decide_eq_true (by omega)
            clear h3
            go_enter Try.func22, Try.ntmps22
            go_wp2
            go_ret
            exact ⟨rfl, kb⟩
          · skip
            have hm : mayB 2 0 0 0 n = false := decide_eq_false (by unfold mayP; omega)
            rw [hm]; clear hm
            have d0 : decide (((n : Int) : Int) ≤ 64) = false := decide_eq_false (by omega)
            clear h3
            go_enter Try.func22, Try.ntmps22
            go_wp2
            go_ret
            exact ⟨rfl, kb⟩
        · skip
          have hm : mayB 2 0 0 b n = false := decide_eq_false (by unfold mayP; omega)
          rw [hm]; clear hm
          have d0 : (b == 0) = false := by rw [beq_eq_false_iff_ne]; omega
          clear h2
          go_enter Try.func22, Try.ntmps22
          go_wp2
          go_ret
          exact ⟨rfl, kb⟩
      · skip
        have hm : mayB 2 0 y b n = false := decide_eq_false (by unfold mayP; omega)
        rw [hm]; clear hm
        have d0 : (y == 0) = false := by rw [beq_eq_false_iff_ne]; omega
        clear h1
        go_enter Try.func22, Try.ntmps22
        go_wp2
        go_ret
        exact ⟨rfl, kb⟩
    · skip
      have hm : mayB 2 x y b n = false := decide_eq_false (by unfold mayP; omega)
      rw [hm]; clear hm
      have d0 : (x == 0) = false := by rw [beq_eq_false_iff_ne]; omega
      clear h0
      go_enter Try.func22, Try.ntmps22
      go_wp2
      go_ret
      exact ⟨rfl, kb⟩
  have e2 : (k == 2) = false := by rw [beq_eq_false_iff_ne]; exact k2
  by_cases k3 : k = 3
  · subst k3
    clear k1 e1 k2 e2
    by_cases h0 : n = 0
    · subst h0
      by_cases h1 : (0 : Int) ≤ x
      · skip
        by_cases h2 : (x : Int) < 80
        · skip
          by_cases h3 : (0 : Int) ≤ y
          · skip
            by_cases h4 : (y : Int) < 24
            · skip
              by_cases h5 : (0 : Int) ≤ b
              · skip
                by_cases h6 : (b : Int) ≤ 255
                · skip
                  have hm : mayB 3 x y b 0 = true := decide_eq_true (by unfold mayP; omega)
                  rw [hm]; clear hm
                  have d0 : decide ((0 : Int) ≤ x) = true := decide_eq_true (by omega)
                  have d1 : decide ((x : Int) < 80) = true := decide_eq_true (by omega)
                  have d2 : decide ((0 : Int) ≤ y) = true := decide_eq_true (by omega)
                  have d3 : decide ((y : Int) < 24) = true := decide_eq_true (by omega)
                  have d4 : decide ((0 : Int) ≤ b) = true := decide_eq_true (by omega)
                  have d5 : decide ((b : Int) ≤ 255) = true := decide_eq_true (by omega)
                  clear h1 h2 h3 h4 h5 h6
                  go_enter Try.func22, Try.ntmps22
                  go_wp2
                  go_ret
                  exact ⟨rfl, kb⟩
                · skip
                  have hm : mayB 3 x y b 0 = false := decide_eq_false (by unfold mayP; omega)
                  rw [hm]; clear hm
                  have d0 : decide ((0 : Int) ≤ x) = true := decide_eq_true (by omega)
                  have d1 : decide ((x : Int) < 80) = true := decide_eq_true (by omega)
                  have d2 : decide ((0 : Int) ≤ y) = true := decide_eq_true (by omega)
                  have d3 : decide ((y : Int) < 24) = true := decide_eq_true (by omega)
                  have d4 : decide ((0 : Int) ≤ b) = true := decide_eq_true (by omega)
                  have d5 : decide ((b : Int) ≤ 255) = false := decide_eq_false (by omega)
                  clear h1 h2 h3 h4 h5 h6
                  go_enter Try.func22, Try.ntmps22
                  go_wp2
                  go_ret
                  exact ⟨rfl, kb⟩
              · skip
                have hm : mayB 3 x y b 0 = false := decide_eq_false (by unfold mayP; omega)
                rw [hm]; clear hm
                have d0 : decide ((0 : Int) ≤ x) = true := decide_eq_true (by omega)
                have d1 : decide ((x : Int) < 80) = true := decide_eq_true (by omega)
                have d2 : decide ((0 : Int) ≤ y) = true := decide_eq_true (by omega)
                have d3 : decide ((y : Int) < 24) = true := decide_eq_true (by omega)
                have d4 : decide ((0 : Int) ≤ b) = false := decide_eq_false (by omega)
                clear h1 h2 h3 h4 h5
                go_enter Try.func22, Try.ntmps22
                go_wp2
                go_ret
                exact ⟨rfl, kb⟩
            · skip
              have hm : mayB 3 x y b 0 = false := decide_eq_false (by unfold mayP; omega)
              rw [hm]; clear hm
              have d0 : decide ((0 : Int) ≤ x) = true := decide_eq_true (by omega)
              have d1 : decide ((x : Int) < 80) = true := decide_eq_true (by omega)
              have d2 : decide ((0 : Int) ≤ y) = true := decide_eq_true (by omega)
              have d3 : decide ((y : Int) < 24) = false := decide_eq_false (by omega)
              clear h1 h2 h3 h4
              go_enter Try.func22, Try.ntmps22
              go_wp2
              go_ret
              exact ⟨rfl, kb⟩
          · skip
            have hm : mayB 3 x y b 0 = false := decide_eq_false (by unfold mayP; omega)
            rw [hm]; clear hm
            have d0 : decide ((0 : Int) ≤ x) = true := decide_eq_true (by omega)
            have d1 : decide ((x : Int) < 80) = true := decide_eq_true (by omega)
            have d2 : decide ((0 : Int) ≤ y) = false := decide_eq_false (by omega)
            clear h1 h2 h3
            go_enter Try.func22, Try.ntmps22
            go_wp2
            go_ret
            exact ⟨rfl, kb⟩
        · skip
          have hm : mayB 3 x y b 0 = false := decide_eq_false (by unfold mayP; omega)
          rw [hm]; clear hm
          have d0 : decide ((0 : Int) ≤ x) = true := decide_eq_true (by omega)
          have d1 : decide ((x : Int) < 80) = false := decide_eq_false (by omega)
          clear h1 h2
          go_enter Try.func22, Try.ntmps22
          go_wp2
          go_ret
          exact ⟨rfl, kb⟩
      · skip
        have hm : mayB 3 x y b 0 = false := decide_eq_false (by unfold mayP; omega)
        rw [hm]; clear hm
        have d0 : decide ((0 : Int) ≤ x) = false := decide_eq_false (by omega)
        clear h1
        go_enter Try.func22, Try.ntmps22
        go_wp2
        go_ret
        exact ⟨rfl, kb⟩
    · skip
      have hm : mayB 3 x y b n = false := decide_eq_false (by unfold mayP; omega)
      rw [hm]; clear hm
      have d0 : ((n : Int) == 0) = false := by rw [beq_eq_false_iff_ne]; omega
      clear h0
      go_enter Try.func22, Try.ntmps22
      go_wp2
      go_ret
      exact ⟨rfl, kb⟩
  have e3 : (k == 3) = false := by rw [beq_eq_false_iff_ne]; exact k3
  by_cases k4 : k = 4
  · subst k4
    clear k1 e1 k2 e2 k3 e3
    by_cases h0 : n = 0
    · subst h0
      by_cases h1 : b = 0
      · subst h1
        by_cases h2 : (1 : Int) ≤ x
        · skip
          by_cases h3 : (x : Int) ≤ 80
          · skip
            by_cases h4 : (1 : Int) ≤ y
            · skip
              by_cases h5 : (y : Int) ≤ 24
              · skip
                have hm : mayB 4 x y 0 0 = true := decide_eq_true (by unfold mayP; omega)
                rw [hm]; clear hm
                have d0 : decide ((1 : Int) ≤ x) = true := decide_eq_true (by omega)
                have d1 : decide ((x : Int) ≤ 80) = true := decide_eq_true (by omega)
                have d2 : decide ((1 : Int) ≤ y) = true := decide_eq_true (by omega)
                have d3 : decide ((y : Int) ≤ 24) = true := decide_eq_true (by omega)
                clear h2 h3 h4 h5
                go_enter Try.func22, Try.ntmps22
                go_wp2
                go_ret
                exact ⟨rfl, kb⟩
              · skip
                have hm : mayB 4 x y 0 0 = false := decide_eq_false (by unfold mayP; omega)
                rw [hm]; clear hm
                have d0 : decide ((1 : Int) ≤ x) = true := decide_eq_true (by omega)
                have d1 : decide ((x : Int) ≤ 80) = true := decide_eq_true (by omega)
                have d2 : decide ((1 : Int) ≤ y) = true := decide_eq_true (by omega)
                have d3 : decide ((y : Int) ≤ 24) = false := decide_eq_false (by omega)
                clear h2 h3 h4 h5
                go_enter Try.func22, Try.ntmps22
                go_wp2
                go_ret
                exact ⟨rfl, kb⟩
            · skip
              have hm : mayB 4 x y 0 0 = false := decide_eq_false (by unfold mayP; omega)
              rw [hm]; clear hm
              have d0 : decide ((1 : Int) ≤ x) = true := decide_eq_true (by omega)
              have d1 : decide ((x : Int) ≤ 80) = true := decide_eq_true (by omega)
              have d2 : decide ((1 : Int) ≤ y) = false := decide_eq_false (by omega)
              clear h2 h3 h4
              go_enter Try.func22, Try.ntmps22
              go_wp2
              go_ret
              exact ⟨rfl, kb⟩
          · skip
            have hm : mayB 4 x y 0 0 = false := decide_eq_false (by unfold mayP; omega)
            rw [hm]; clear hm
            have d0 : decide ((1 : Int) ≤ x) = true := decide_eq_true (by omega)
            have d1 : decide ((x : Int) ≤ 80) = false := decide_eq_false (by omega)
            clear h2 h3
            go_enter Try.func22, Try.ntmps22
            go_wp2
            go_ret
            exact ⟨rfl, kb⟩
        · skip
          have hm : mayB 4 x y 0 0 = false := decide_eq_false (by unfold mayP; omega)
          rw [hm]; clear hm
          have d0 : decide ((1 : Int) ≤ x) = false := decide_eq_false (by omega)
          clear h2
          go_enter Try.func22, Try.ntmps22
          go_wp2
          go_ret
          exact ⟨rfl, kb⟩
      · skip
        have hm : mayB 4 x y b 0 = false := decide_eq_false (by unfold mayP; omega)
        rw [hm]; clear hm
        have d0 : (b == 0) = false := by rw [beq_eq_false_iff_ne]; omega
        clear h1
        go_enter Try.func22, Try.ntmps22
        go_wp2
        go_ret
        exact ⟨rfl, kb⟩
    · skip
      have hm : mayB 4 x y b n = false := decide_eq_false (by unfold mayP; omega)
      rw [hm]; clear hm
      have d0 : ((n : Int) == 0) = false := by rw [beq_eq_false_iff_ne]; omega
      clear h0
      go_enter Try.func22, Try.ntmps22
      go_wp2
      go_ret
      exact ⟨rfl, kb⟩
  have e4 : (k == 4) = false := by rw [beq_eq_false_iff_ne]; exact k4
  have hm : mayB k x y b n = false := decide_eq_false (by unfold mayP; omega)
  rw [hm]; clear hm
  clear k1 k2 k3 k4
  go_enter Try.func22, Try.ntmps22
  go_wp2
  go_ret
  exact ⟨rfl, kb⟩

set_option maxRecDepth 100000 in
set_option maxHeartbeats 4000000 in
theorem refMay_c (k x y b : Int) (A : Option Addr) (n c : Nat) (w : World) : Calls Try.prog 23 #[.agg #[.int .i64 k, .slice A n c, .int .i64 x, .int .i64 y, .int .i64 b]] w fun r w' => r = .returned (.bool (mayB k x y b n)) ∧ Below w.heap.size w w' := by
  have kb : Below w.heap.size w (w.alloc (.cells #[.int .i64 k, .slice A n c, .int .i64 x, .int .i64 y, .int .i64 b] 36)) := (Below.refl _ _).alloc (Nat.le_refl _) _
  by_cases k1 : k = 1
  · subst k1
    by_cases h0 : x = 0
    · subst h0
      by_cases h1 : y = 0
      · subst h1
        by_cases h2 : b = 0
        · subst h2
          by_cases h3 : n = 0
          · subst h3
            have hm : mayB 1 0 0 0 0 = false := decide_eq_false (by unfold mayP; omega)
            rw [hm]; clear hm
            go_enter Try.func23, Try.ntmps23
            go_wp2
            go_ret
            exact ⟨rfl, kb⟩
          · have hn0 : 0 < n := by omega
            by_cases h4 : ((n : Int) : Int) < 9
            · skip
              have hm : mayB 1 0 0 0 n = true := decide_eq_true (by unfold mayP; omega)
              rw [hm]; clear hm
              have d0 : decide (((n : Int) : Int) < 9) = true := decide_eq_true (by omega)
              clear h3 h4
              go_enter Try.func23, Try.ntmps23
              go_wp2
              go_ret
              exact ⟨rfl, kb⟩
            · skip
              have hm : mayB 1 0 0 0 n = false := decide_eq_false (by unfold mayP; omega)
              rw [hm]; clear hm
              have d0 : decide (((n : Int) : Int) < 9) = false := decide_eq_false (by omega)
              clear h3 h4
              go_enter Try.func23, Try.ntmps23
              go_wp2
              go_ret
              exact ⟨rfl, kb⟩
        · skip
          have hm : mayB 1 0 0 b n = false := decide_eq_false (by unfold mayP; omega)
          rw [hm]; clear hm
          have d0 : (b == 0) = false := by rw [beq_eq_false_iff_ne]; omega
          clear h2
          go_enter Try.func23, Try.ntmps23
          go_wp2
          go_ret
          exact ⟨rfl, kb⟩
      · skip
        have hm : mayB 1 0 y b n = false := decide_eq_false (by unfold mayP; omega)
        rw [hm]; clear hm
        have d0 : (y == 0) = false := by rw [beq_eq_false_iff_ne]; omega
        clear h1
        go_enter Try.func23, Try.ntmps23
        go_wp2
        go_ret
        exact ⟨rfl, kb⟩
    · skip
      have hm : mayB 1 x y b n = false := decide_eq_false (by unfold mayP; omega)
      rw [hm]; clear hm
      have d0 : (x == 0) = false := by rw [beq_eq_false_iff_ne]; omega
      clear h0
      go_enter Try.func23, Try.ntmps23
      go_wp2
      go_ret
      exact ⟨rfl, kb⟩
  have e1 : (k == 1) = false := by rw [beq_eq_false_iff_ne]; exact k1
  by_cases k2 : k = 2
  · subst k2
    clear k1 e1
    by_cases h0 : x = 0
    · subst h0
      by_cases h1 : y = 0
      · subst h1
        by_cases h2 : b = 0
        · subst h2
          by_cases h3 : ((n : Int) : Int) < 65
          · skip
            have hm : mayB 2 0 0 0 n = true := decide_eq_true (by unfold mayP; omega)
            rw [hm]; clear hm
            have d0 : decide (((n : Int) : Int) < 65) = true := decide_eq_true (by omega)
            clear h3
            go_enter Try.func23, Try.ntmps23
            go_wp2
            go_ret
            exact ⟨rfl, kb⟩
          · skip
            have hm : mayB 2 0 0 0 n = false := decide_eq_false (by unfold mayP; omega)
            rw [hm]; clear hm
            have d0 : decide (((n : Int) : Int) < 65) = false := decide_eq_false (by omega)
            clear h3
            go_enter Try.func23, Try.ntmps23
            go_wp2
            go_ret
            exact ⟨rfl, kb⟩
        · skip
          have hm : mayB 2 0 0 b n = false := decide_eq_false (by unfold mayP; omega)
          rw [hm]; clear hm
          have d0 : (b == 0) = false := by rw [beq_eq_false_iff_ne]; omega
          clear h2
          go_enter Try.func23, Try.ntmps23
          go_wp2
          go_ret
          exact ⟨rfl, kb⟩
      · skip
        have hm : mayB 2 0 y b n = false := decide_eq_false (by unfold mayP; omega)
        rw [hm]; clear hm
        have d0 : (y == 0) = false := by rw [beq_eq_false_iff_ne]; omega
        clear h1
        go_enter Try.func23, Try.ntmps23
        go_wp2
        go_ret
        exact ⟨rfl, kb⟩
    · skip
      have hm : mayB 2 x y b n = false := decide_eq_false (by unfold mayP; omega)
      rw [hm]; clear hm
      have d0 : (x == 0) = false := by rw [beq_eq_false_iff_ne]; omega
      clear h0
      go_enter Try.func23, Try.ntmps23
      go_wp2
      go_ret
      exact ⟨rfl, kb⟩
  have e2 : (k == 2) = false := by rw [beq_eq_false_iff_ne]; exact k2
  by_cases k3 : k = 3
  · subst k3
    clear k1 e1 k2 e2
    have pl : ∀ q : Prop, q → q := fun _ h => h
    clear pl
    by_cases px : x = 0
    · subst px
      by_cases py : y = 0
      · subst py
        by_cases h0 : n = 0
        · subst h0
          by_cases h5 : (0 : Int) ≤ b
          · skip
            by_cases h6 : (b : Int) < 256
            · skip
              have hm : mayB 3 0 0 b 0 = true := decide_eq_true (by unfold mayP; omega)
              rw [hm]; clear hm
              have d0 : decide ((0 : Int) ≤ b) = true := decide_eq_true (by omega)
              have d1 : decide ((b : Int) < 256) = true := decide_eq_true (by omega)
              clear h5 h6
              go_enter Try.func23, Try.ntmps23
              go_wp2
              go_ret
              exact ⟨rfl, kb⟩
            · skip
              have hm : mayB 3 0 0 b 0 = false := decide_eq_false (by unfold mayP; omega)
              rw [hm]; clear hm
              have d0 : decide ((0 : Int) ≤ b) = true := decide_eq_true (by omega)
              have d1 : decide ((b : Int) < 256) = false := decide_eq_false (by omega)
              clear h5 h6
              go_enter Try.func23, Try.ntmps23
              go_wp2
              go_ret
              exact ⟨rfl, kb⟩
          · skip
            have hm : mayB 3 0 0 b 0 = false := decide_eq_false (by unfold mayP; omega)
            rw [hm]; clear hm
            have d0 : decide ((0 : Int) ≤ b) = false := decide_eq_false (by omega)
            clear h5
            go_enter Try.func23, Try.ntmps23
            go_wp2
            go_ret
            exact ⟨rfl, kb⟩
        · skip
          have hm : mayB 3 0 0 b n = false := decide_eq_false (by unfold mayP; omega)
          rw [hm]; clear hm
          have d0 : ((n : Int) == 0) = false := by rw [beq_eq_false_iff_ne]; omega
          clear h0
          go_enter Try.func23, Try.ntmps23
          go_wp2
          go_ret
          exact ⟨rfl, kb⟩
      · have py' : (y == 0) = false := by rw [beq_eq_false_iff_ne]; exact py
        by_cases h0 : n = 0
        · subst h0
          by_cases h3 : (0 : Int) ≤ y
          · skip
            by_cases h4 : (y : Int) ≤ 23
            · skip
              by_cases h5 : (0 : Int) ≤ b
              · skip
                by_cases h6 : (b : Int) < 256
                · skip
                  have hm : mayB 3 0 y b 0 = true := decide_eq_true (by unfold mayP; omega)
                  rw [hm]; clear hm
                  have d0 : decide ((0 : Int) ≤ y) = true := decide_eq_true (by omega)
                  have d1 : decide ((y : Int) ≤ 23) = true := decide_eq_true (by omega)
                  have d2 : decide ((0 : Int) ≤ b) = true := decide_eq_true (by omega)
                  have d3 : decide ((b : Int) < 256) = true := decide_eq_true (by omega)
                  clear py h3 h4 h5 h6
                  go_enter Try.func23, Try.ntmps23
                  go_wp2
                  go_ret
                  exact ⟨rfl, kb⟩
                · skip
                  have hm : mayB 3 0 y b 0 = false := decide_eq_false (by unfold mayP; omega)
                  rw [hm]; clear hm
                  have d0 : decide ((0 : Int) ≤ y) = true := decide_eq_true (by omega)
                  have d1 : decide ((y : Int) ≤ 23) = true := decide_eq_true (by omega)
                  have d2 : decide ((0 : Int) ≤ b) = true := decide_eq_true (by omega)
                  have d3 : decide ((b : Int) < 256) = false := decide_eq_false (by omega)
                  clear py h3 h4 h5 h6
                  go_enter Try.func23, Try.ntmps23
                  go_wp2
                  go_ret
                  exact ⟨rfl, kb⟩
              · skip
                have hm : mayB 3 0 y b 0 = false := decide_eq_false (by unfold mayP; omega)
                rw [hm]; clear hm
                have d0 : decide ((0 : Int) ≤ y) = true := decide_eq_true (by omega)
                have d1 : decide ((y : Int) ≤ 23) = true := decide_eq_true (by omega)
                have d2 : decide ((0 : Int) ≤ b) = false := decide_eq_false (by omega)
                clear py h3 h4 h5
                go_enter Try.func23, Try.ntmps23
                go_wp2
                go_ret
                exact ⟨rfl, kb⟩
            · skip
              have hm : mayB 3 0 y b 0 = false := decide_eq_false (by unfold mayP; omega)
              rw [hm]; clear hm
              have d0 : decide ((0 : Int) ≤ y) = true := decide_eq_true (by omega)
              have d1 : decide ((y : Int) ≤ 23) = false := decide_eq_false (by omega)
              clear py h3 h4
              go_enter Try.func23, Try.ntmps23
              go_wp2
              go_ret
              exact ⟨rfl, kb⟩
          · skip
            have hm : mayB 3 0 y b 0 = false := decide_eq_false (by unfold mayP; omega)
            rw [hm]; clear hm
            have d0 : decide ((0 : Int) ≤ y) = false := decide_eq_false (by omega)
            clear py h3
            go_enter Try.func23, Try.ntmps23
            go_wp2
            go_ret
            exact ⟨rfl, kb⟩
        · skip
          have hm : mayB 3 0 y b n = false := decide_eq_false (by unfold mayP; omega)
          rw [hm]; clear hm
          have d0 : ((n : Int) == 0) = false := by rw [beq_eq_false_iff_ne]; omega
          clear py h0
          go_enter Try.func23, Try.ntmps23
          go_wp2
          go_ret
          exact ⟨rfl, kb⟩
    · have px' : (x == 0) = false := by rw [beq_eq_false_iff_ne]; exact px
      by_cases h0 : n = 0
      · subst h0
        by_cases h1 : (0 : Int) ≤ x
        · skip
          by_cases h2 : (x : Int) ≤ 79
          · skip
            by_cases h3 : (0 : Int) ≤ y
            · skip
              by_cases h4 : (y : Int) ≤ 23
              · skip
                by_cases h5 : (0 : Int) ≤ b
                · skip
                  by_cases h6 : (b : Int) < 256
                  · skip
                    have hm : mayB 3 x y b 0 = true := decide_eq_true (by unfold mayP; omega)
                    rw [hm]; clear hm
                    have d0 : decide ((0 : Int) ≤ x) = true := decide_eq_true (by omega)
                    have d1 : decide ((x : Int) ≤ 79) = true := decide_eq_true (by omega)
                    have d2 : decide ((0 : Int) ≤ y) = true := decide_eq_true (by omega)
                    have d3 : decide ((y : Int) ≤ 23) = true := decide_eq_true (by omega)
                    have d4 : decide ((0 : Int) ≤ b) = true := decide_eq_true (by omega)
                    have d5 : decide ((b : Int) < 256) = true := decide_eq_true (by omega)
                    clear px h1 h2 h3 h4 h5 h6
                    go_enter Try.func23, Try.ntmps23
                    go_wp2
                    go_ret
                    exact ⟨rfl, kb⟩
                  · skip
                    have hm : mayB 3 x y b 0 = false := decide_eq_false (by unfold mayP; omega)
                    rw [hm]; clear hm
                    have d0 : decide ((0 : Int) ≤ x) = true := decide_eq_true (by omega)
                    have d1 : decide ((x : Int) ≤ 79) = true := decide_eq_true (by omega)
                    have d2 : decide ((0 : Int) ≤ y) = true := decide_eq_true (by omega)
                    have d3 : decide ((y : Int) ≤ 23) = true := decide_eq_true (by omega)
                    have d4 : decide ((0 : Int) ≤ b) = true := decide_eq_true (by omega)
                    have d5 : decide ((b : Int) < 256) = false := decide_eq_false (by omega)
                    clear px h1 h2 h3 h4 h5 h6
                    go_enter Try.func23, Try.ntmps23
                    go_wp2
                    go_ret
                    exact ⟨rfl, kb⟩
                · skip
                  have hm : mayB 3 x y b 0 = false := decide_eq_false (by unfold mayP; omega)
                  rw [hm]; clear hm
                  have d0 : decide ((0 : Int) ≤ x) = true := decide_eq_true (by omega)
                  have d1 : decide ((x : Int) ≤ 79) = true := decide_eq_true (by omega)
                  have d2 : decide ((0 : Int) ≤ y) = true := decide_eq_true (by omega)
                  have d3 : decide ((y : Int) ≤ 23) = true := decide_eq_true (by omega)
                  have d4 : decide ((0 : Int) ≤ b) = false := decide_eq_false (by omega)
                  clear px h1 h2 h3 h4 h5
                  go_enter Try.func23, Try.ntmps23
                  go_wp2
                  go_ret
                  exact ⟨rfl, kb⟩
              · skip
                have hm : mayB 3 x y b 0 = false := decide_eq_false (by unfold mayP; omega)
                rw [hm]; clear hm
                have d0 : decide ((0 : Int) ≤ x) = true := decide_eq_true (by omega)
                have d1 : decide ((x : Int) ≤ 79) = true := decide_eq_true (by omega)
                have d2 : decide ((0 : Int) ≤ y) = true := decide_eq_true (by omega)
                have d3 : decide ((y : Int) ≤ 23) = false := decide_eq_false (by omega)
                clear px h1 h2 h3 h4
                go_enter Try.func23, Try.ntmps23
                go_wp2
                go_ret
                exact ⟨rfl, kb⟩
            · skip
              have hm : mayB 3 x y b 0 = false := decide_eq_false (by unfold mayP; omega)
              rw [hm]; clear hm
              have d0 : decide ((0 : Int) ≤ x) = true := decide_eq_true (by omega)
              have d1 : decide ((x : Int) ≤ 79) = true := decide_eq_true (by omega)
              have d2 : decide ((0 : Int) ≤ y) = false := decide_eq_false (by omega)
              clear px h1 h2 h3
              go_enter Try.func23, Try.ntmps23
              go_wp2
              go_ret
              exact ⟨rfl, kb⟩
          · skip
            have hm : mayB 3 x y b 0 = false := decide_eq_false (by unfold mayP; omega)
            rw [hm]; clear hm
            have d0 : decide ((0 : Int) ≤ x) = true := decide_eq_true (by omega)
            have d1 : decide ((x : Int) ≤ 79) = false := decide_eq_false (by omega)
            clear px h1 h2
            go_enter Try.func23, Try.ntmps23
            go_wp2
            go_ret
            exact ⟨rfl, kb⟩
        · skip
          have hm : mayB 3 x y b 0 = false := decide_eq_false (by unfold mayP; omega)
          rw [hm]; clear hm
          have d0 : decide ((0 : Int) ≤ x) = false := decide_eq_false (by omega)
          clear px h1
          go_enter Try.func23, Try.ntmps23
          go_wp2
          go_ret
          exact ⟨rfl, kb⟩
      · skip
        have hm : mayB 3 x y b n = false := decide_eq_false (by unfold mayP; omega)
        rw [hm]; clear hm
        have d0 : ((n : Int) == 0) = false := by rw [beq_eq_false_iff_ne]; omega
        clear px h0
        go_enter Try.func23, Try.ntmps23
        go_wp2
        go_ret
        exact ⟨rfl, kb⟩
  have e3 : (k == 3) = false := by rw [beq_eq_false_iff_ne]; exact k3
  by_cases k4 : k = 4
  · subst k4
    clear k1 e1 k2 e2 k3 e3
    have pl : ∀ q : Prop, q → q := fun _ h => h
    clear pl
    by_cases px : x = 0
    · subst px
      by_cases py : y = 0
      · subst py
        by_cases h0 : n = 0
        · subst h0
          by_cases h1 : b = 0
          · subst h1
            have hm : mayB 4 0 0 0 0 = false := decide_eq_false (by unfold mayP; omega)
            rw [hm]; clear hm
            go_enter Try.func23, Try.ntmps23
            go_wp2
            go_ret
            exact ⟨rfl, kb⟩
          · skip
            have hm : mayB 4 0 0 b 0 = false := decide_eq_false (by unfold mayP; omega)
            rw [hm]; clear hm
            have d0 : (b == 0) = false := by rw [beq_eq_false_iff_ne]; omega
            clear h1
            go_enter Try.func23, Try.ntmps23
            go_wp2
            go_ret
            exact ⟨rfl, kb⟩
        · skip
          have hm : mayB 4 0 0 b n = false := decide_eq_false (by unfold mayP; omega)
          rw [hm]; clear hm
          have d0 : ((n : Int) == 0) = false := by rw [beq_eq_false_iff_ne]; omega
          clear h0
          go_enter Try.func23, Try.ntmps23
          go_wp2
          go_ret
          exact ⟨rfl, kb⟩
      · have py' : (y == 0) = false := by rw [beq_eq_false_iff_ne]; exact py
        by_cases h0 : n = 0
        · subst h0
          by_cases h1 : b = 0
          · subst h1
            have hm : mayB 4 0 y 0 0 = false := decide_eq_false (by unfold mayP; omega)
            rw [hm]; clear hm
            clear py
            go_enter Try.func23, Try.ntmps23
            go_wp2
            go_ret
            exact ⟨rfl, kb⟩
          · skip
            have hm : mayB 4 0 y b 0 = false := decide_eq_false (by unfold mayP; omega)
            rw [hm]; clear hm
            have d0 : (b == 0) = false := by rw [beq_eq_false_iff_ne]; omega
            clear py h1
            go_enter Try.func23, Try.ntmps23
            go_wp2
            go_ret
            exact ⟨rfl, kb⟩
        · skip
          have hm : mayB 4 0 y b n = false := decide_eq_false (by unfold mayP; omega)
          rw [hm]; clear hm
          have d0 : ((n : Int) == 0) = false := by rw [beq_eq_false_iff_ne]; omega
          clear py h0
          go_enter Try.func23, Try.ntmps23
          go_wp2
          go_ret
          exact ⟨rfl, kb⟩
    · have px' : (x == 0) = false := by rw [beq_eq_false_iff_ne]; exact px
      by_cases h0 : n = 0
      · subst h0
        by_cases h1 : b = 0
        · subst h1
          by_cases h2 : (0 : Int) < x
          · skip
            by_cases h3 : (x : Int) ≤ 80
            · skip
              by_cases h4 : (0 : Int) < y
              · skip
                by_cases h5 : (y : Int) ≤ 24
                · skip
                  have hm : mayB 4 x y 0 0 = true := decide_eq_true (by unfold mayP; omega)
                  rw [hm]; clear hm
                  have d0 : decide ((0 : Int) < x) = true := decide_eq_true (by omega)
                  have d1 : decide ((x : Int) ≤ 80) = true := decide_eq_true (by omega)
                  have d2 : decide ((0 : Int) < y) = true := decide_eq_true (by omega)
                  have d3 : decide ((y : Int) ≤ 24) = true := decide_eq_true (by omega)
                  clear px h2 h3 h4 h5
                  go_enter Try.func23, Try.ntmps23
                  go_wp2
                  go_ret
                  exact ⟨rfl, kb⟩
                · skip
                  have hm : mayB 4 x y 0 0 = false := decide_eq_false (by unfold mayP; omega)
                  rw [hm]; clear hm
                  have d0 : decide ((0 : Int) < x) = true := decide_eq_true (by omega)
                  have d1 : decide ((x : Int) ≤ 80) = true := decide_eq_true (by omega)
                  have d2 : decide ((0 : Int) < y) = true := decide_eq_true (by omega)
                  have d3 : decide ((y : Int) ≤ 24) = false := decide_eq_false (by omega)
                  clear px h2 h3 h4 h5
                  go_enter Try.func23, Try.ntmps23
                  go_wp2
                  go_ret
                  exact ⟨rfl, kb⟩
              · skip
                have hm : mayB 4 x y 0 0 = false := decide_eq_false (by unfold mayP; omega)
                rw [hm]; clear hm
                have d0 : decide ((0 : Int) < x) = true := decide_eq_true (by omega)
                have d1 : decide ((x : Int) ≤ 80) = true := decide_eq_true (by omega)
                have d2 : decide ((0 : Int) < y) = false := decide_eq_false (by omega)
                clear px h2 h3 h4
                go_enter Try.func23, Try.ntmps23
                go_wp2
                go_ret
                exact ⟨rfl, kb⟩
            · skip
              have hm : mayB 4 x y 0 0 = false := decide_eq_false (by unfold mayP; omega)
              rw [hm]; clear hm
              have d0 : decide ((0 : Int) < x) = true := decide_eq_true (by omega)
              have d1 : decide ((x : Int) ≤ 80) = false := decide_eq_false (by omega)
              clear px h2 h3
              go_enter Try.func23, Try.ntmps23
              go_wp2
              go_ret
              exact ⟨rfl, kb⟩
          · skip
            have hm : mayB 4 x y 0 0 = false := decide_eq_false (by unfold mayP; omega)
            rw [hm]; clear hm
            have d0 : decide ((0 : Int) < x) = false := decide_eq_false (by omega)
            clear px h2
            go_enter Try.func23, Try.ntmps23
            go_wp2
            go_ret
            exact ⟨rfl, kb⟩
        · skip
          have hm : mayB 4 x y b 0 = false := decide_eq_false (by unfold mayP; omega)
          rw [hm]; clear hm
          have d0 : (b == 0) = false := by rw [beq_eq_false_iff_ne]; omega
          clear px h1
          go_enter Try.func23, Try.ntmps23
          go_wp2
          go_ret
          exact ⟨rfl, kb⟩
      · skip
        have hm : mayB 4 x y b n = false := decide_eq_false (by unfold mayP; omega)
        rw [hm]; clear hm
        have d0 : ((n : Int) == 0) = false := by rw [beq_eq_false_iff_ne]; omega
        clear px h0
        go_enter Try.func23, Try.ntmps23
        go_wp2
        go_ret
        exact ⟨rfl, kb⟩
  have e4 : (k == 4) = false := by rw [beq_eq_false_iff_ne]; exact k4
  by_cases px : x = 0
  · subst px
    by_cases py : y = 0
    · subst py
      have hm : mayB k 0 0 b n = false := decide_eq_false (by unfold mayP; omega)
      rw [hm]; clear hm
      clear k1 k2 k3 k4
      go_enter Try.func23, Try.ntmps23
      go_wp2
      go_ret
      exact ⟨rfl, kb⟩
    · have py' : (y == 0) = false := by rw [beq_eq_false_iff_ne]; exact py
      have hm : mayB k 0 y b n = false := decide_eq_false (by unfold mayP; omega)
      rw [hm]; clear hm
      clear k1 k2 k3 k4 py
      go_enter Try.func23, Try.ntmps23
      go_wp2
      go_ret
      exact ⟨rfl, kb⟩
  · have px' : (x == 0) = false := by rw [beq_eq_false_iff_ne]; exact px
    have hm : mayB k x y b n = false := decide_eq_false (by unfold mayP; omega)
    rw [hm]; clear hm
    clear k1 k2 k3 k4 px
    go_enter Try.func23, Try.ntmps23
    go_wp2
    go_ret
    exact ⟨rfl, kb⟩
end Go.Proofs.Ytgnciejbhaebeaa

/- What keys.numbers.put and the reference's lay answer: a number in a version's way; and which event may not be. Conditions: events that can be read. -/
namespace Go.Proofs.Ytgnciejbhaebeaa
open Go Go.RowKit

def putL (f : Bool) (n : Nat) (size : Int) : List UInt8 := if f then numLI n size else varL n

set_option maxRecDepth 100000 in
set_option maxHeartbeats 1000000 in
theorem put_c (f : Bool) (n : Nat) (size : Int) (w : World) (hn : U64 n) :
    Calls Try.prog 60 #[.agg #[.bool f], .int .u64 n, .int .i64 size] w fun r w' => ∃ v, r = .returned v ∧ OwnB w' w.heap.size v (putL f n size) ∧ Below w.heap.size w w' := by
  have k0 : Below w.heap.size w (w.alloc (.cells #[.bool f] 111)) := (Below.refl _ _).alloc (Nat.le_refl _) _
  cases f
  · go_enter Try.func60, Try.ntmps60
    go_wp2_with (fail)
    refine (Var_c n _ hn).mono ?_
    rintro r w1 ⟨v, rfl, ho, hb⟩
    have HO := Lib.hid ho; clear ho
    go_wp2_with (fail)
    go_ret
    exact ⟨_, rfl, Own.low HO.out k0.size, k0.trans (hb.mono k0.size)⟩
  · go_enter Try.func60, Try.ntmps60
    go_wp2_with (fail)
    refine (Num_c n size _ hn).mono ?_
    rintro r w1 ⟨v, rfl, ho, hb⟩
    have HO := Lib.hid ho; clear ho
    go_wp2_with (fail)
    go_ret
    exact ⟨_, rfl, Own.low HO.out k0.size, k0.trans (hb.mono k0.size)⟩

set_option maxRecDepth 100000 in
set_option maxHeartbeats 1000000 in
theorem lay24_c (ver : Int) (n : Nat) (size : Int) (w : World) (hn : U64 n) :
    Calls Try.prog 62 #[.int .i64 ver, .int .u64 n, .int .i64 size] w fun r w' => ∃ v, r = .returned v ∧ OwnB w' w.heap.size v (putL (decide (ver = 1)) n size) ∧ Below w.heap.size w w' := by
  by_cases h1 : ver = 1
  · subst h1
    go_enter Try.func62, Try.ntmps62
    go_wp2_with (fail)
    refine (refNum_c n size _ hn).mono ?_
    rintro r w1 ⟨v, rfl, ho, hb⟩
    have HO := Lib.hid ho; clear ho
    go_wp2_with (fail)
    go_ret
    exact ⟨_, rfl, HO.out, hb⟩
  · have e1 : (ver == 1) = false := by rw [beq_eq_false_iff_ne]; exact h1
    have e2 : decide (ver = 1) = false := decide_eq_false h1
    have E2 := Lib.hid e2; clear e2 h1
    go_enter Try.func62, Try.ntmps62
    go_wp2_with (fail)
    refine (refVar_c n _ hn).mono ?_
    rintro r w1 ⟨v, rfl, ho, hb⟩
    have HO := Lib.hid ho; clear ho
    go_wp2_with (fail)
    go_ret
    exact ⟨_, rfl, by rw [E2.out]; exact HO.out, hb⟩

def mostI (k : Int) : Int := if k = 1 then 8 else if k = 2 then 64 else -1
set_option maxRecDepth 100000 in
theorem most_c (k : Int) (w : World) : Calls Try.prog 61 #[.int .i64 k] w fun r w' => r = .returned (.int .i64 (mostI k)) ∧ w = w' := by
  by_cases h1 : k = 1
  · subst h1
    go_enter Try.func61, Try.ntmps61
    go_wp2
    go_ret
    exact ⟨rfl, rfl⟩
  · by_cases h2 : k = 2
    · subst h2
      go_enter Try.func61, Try.ntmps61
      go_wp2
      go_ret
      exact ⟨rfl, rfl⟩
    · have e1 : (k == 1) = false := by rw [beq_eq_false_iff_ne]; exact h1
      have e2 : (k == 2) = false := by rw [beq_eq_false_iff_ne]; exact h2
      have e3 : mostI k = -1 := by rw [mostI, if_neg h1, if_neg h2]
      rw [e3]
      clear e3 h1 h2
      go_enter Try.func61, Try.ntmps61
      go_wp2
      go_ret
      exact ⟨rfl, rfl⟩

set_option maxRecDepth 100000 in
theorem Enc1_c (k x y b : Int) (A : Option Addr) (n c : Nat) (w : World) :
    Calls Try.prog 59 #[.agg #[.int .i64 k, .slice A n c, .int .i64 x, .int .i64 y, .int .i64 b]] w fun r w' => r = .returned (.bool (!(mayB k x y b n))) ∧ Below w.heap.size w w' := by
  have k0 : Below w.heap.size w (w.alloc (.cells #[.int .i64 k, .slice A n c, .int .i64 x, .int .i64 y, .int .i64 b] 36)) := (Below.refl _ _).alloc (Nat.le_refl _) _
  go_enter Try.func59, Try.ntmps59
  go_wp2_with (fail)
  refine (May_c k x y b A n c _).mono ?_
  rintro r w1 ⟨rfl, hb⟩
  obtain ⟨m, em⟩ : ∃ m, m = mayB k x y b n := ⟨_, rfl⟩
  rw [← em]
  have EM := Lib.hid em; clear em
  cases m <;> (go_wp2_with (fail); go_ret; exact ⟨by rw [← EM.out] <;> rfl, k0.trans (hb.mono k0.size)⟩)

/-- The first event that may not be; -1: there is none. -/
def badGo : Nat → List Ev → Int
  | _, [] => -1
  | k, e :: es => if e.may then badGo (k + 1) es else k
theorem badGo_neg : ∀ (es : List Ev) (k : Nat), (0 ≤ badGo k es) ↔ es.all Ev.may = false
  | [], k => by simp [badGo]
  | e :: es, k => by
    rw [badGo, List.all_cons]
    cases h : e.may
    · simp
    · simpa using badGo_neg es (k + 1)

set_option maxRecDepth 100000 in
set_option maxHeartbeats 2000000 in
theorem IndexF_c (ok : Nat → Prop) (A : Option Addr) (n c : Nat) (ds : List EvV) (es : List Ev) (w : World) (hn : es.length = n) (hr : EvsR ok w A ds es) (hl : n ≤ 140737488355328) :
    Calls Try.prog 82 #[.slice A n c, .func (.func 59) #[] #[]] w fun r w' => r = .returned (.int .i64 (badGo 0 es)) ∧ Below w.heap.size w w' := by
  have HN := Lib.hid hn; clear hn
  obtain ⟨R, eR⟩ : ∃ R, R = badGo 0 es := ⟨_, rfl⟩
  rw [← eR]
  have ER := Lib.hid eR; clear eR
  go_enter Try.func82, Try.ntmps82
  go_wp2_with (fail)
  go_loopw [8] (fun i wr => ∃ (k : Nat), k ≤ n ∧ i = .int .i64 k ∧ Hid (badGo 0 es = badGo k (es.drop k)) ∧ Below w.heap.size w wr) (fun i _ => n - (intOf i).toNat)
  case atStart => exact ⟨0, Nat.zero_le _, rfl, Lib.hid (by rw [List.drop_zero]), Below.refl _ _⟩
  case round =>
    obtain ⟨k, hk, rfl, HG, kb⟩ := hrel
    rcases Nat.lt_or_ge k n with hlt | hge
    · obtain ⟨e, b1, o1, At, m, cm, ee, rfl, hb1, -, tt, c0, ca, cb, cc, cd⟩ := hr.at_ k (by rw [HN.out]; exact hlt)
      obtain ⟨t1, -⟩ := tt
      have hd : es.drop k = es[k]'(by rw [HN.out]; exact hlt) :: es.drop (k + 1) := List.drop_eq_getElem_cons (by rw [HN.out]; exact hlt)
      rw [← ee] at hd
      have hmay : e.may = mayB e.k e.x e.y e.b m := by rw [Ev.may, t1]
      have hg := HG.out
      rw [hd, badGo, hmay] at hg
      have HG2 := Lib.hid hg; clear hg HG hd hmay ee t1
      obtain ⟨z0, t, z2, z3, z4⟩ := e
      simp only at c0 ca cb cc cd HG2
      rw [← kb.cell (p := ⟨b1, _, none⟩) hb1] at c0 ca cb cc cd
      have hlt' : (k : Int) < (n : Int) := by omega
      go_wp2_with (fail)
      refine (Enc1_c z0 z2 z3 z4 At m cm wr).mono ?_
      rintro r w1 ⟨rfl, hb⟩
      have kb1 := kb.trans (hb.mono kb.size)
      clear c0 ca cb cc cd
      obtain ⟨M, eM⟩ : ∃ M, M = mayB z0 z2 z3 z4 m := ⟨_, rfl⟩
      rw [← eM]
      rw [← eM] at HG2
      clear eM
      cases M
      · have hR : R = k := by rw [ER.out, HG2.out]; rfl
        have HRR := Lib.hid hR; clear hR HG2
        go_wp2_with (fail)
        go_ret
        exact ⟨by rw [HRR.out] <;> rfl, kb1⟩
      · have hR : badGo 0 es = badGo (k + 1) (es.drop (k + 1)) := by rw [HG2.out]; rfl
        have HRR := Lib.hid hR; clear hR HG2
        go_wp2_with (fail)
        go_roundw
        case rel => exact ⟨k + 1, by omega, by go_num, HRR, kb1⟩
        case measure => simp [intOf]; omega
    · obtain rfl : n = k := by omega
      have hR : R = -1 := by rw [ER.out, HG.out, ← HN.out, List.drop_length]; rfl
      have HRR := Lib.hid hR; clear hR
      go_wp2_with (fail)
      go_ret
      exact ⟨by rw [HRR.out] <;> rfl, kb⟩
set_option maxRecDepth 100000 in
theorem ContF_c (ok : Nat → Prop) (A : Option Addr) (n c : Nat) (ds : List EvV) (es : List Ev) (w : World) (hn : es.length = n) (hr : EvsR ok w A ds es) (hl : n ≤ 140737488355328) :
    Calls Try.prog 58 #[.slice A n c, .func (.func 59) #[] #[]] w fun r w' => r = .returned (.bool (!es.all Ev.may)) ∧ Below w.heap.size w w' := by
  have hb := badGo_neg es 0
  obtain ⟨R, eR⟩ : ∃ R, R = badGo 0 es := ⟨_, rfl⟩
  rw [← eR] at hb
  have e1 : decide (0 ≤ R) = (!es.all Ev.may) := by
    cases h : es.all Ev.may
    · exact decide_eq_true (hb.2 h)
    · refine decide_eq_false (fun h2 => ?_)
      rw [hb.1 h2] at h; cases h
  have E1 := Lib.hid e1
  have ER := Lib.hid eR
  clear e1 eR hb
  go_enter Try.func58, Try.ntmps58
  go_wp2_with (fail)
  refine (IndexF_c ok A n c ds es w hn hr hl).mono ?_
  rintro r w1 ⟨rfl, hb⟩
  rw [← ER.out]
  go_wp2_with (fail)
  go_ret
  exact ⟨by rw [← E1.out] <;> rfl, hb⟩
end Go.Proofs.Ytgnciejbhaebeaa

/- The bytes of a batch of events, in plain words. Conditions: none. -/
namespace Go.Proofs.Ytgnciejbhaebeaa
open Go Go.RowKit

def evL (f : Bool) (e : Ev) : List UInt8 :=
  putL f e.k.toNat 1 ++ (if e.k = 1 ∨ e.k = 2 then putL f e.t.length 1 ++ e.t else putL f e.x.toNat 1 ++ putL f e.y.toNat 1 ++ (if e.k = 3 then putL f e.b.toNat 1 else []))
def evsL (f : Bool) (es : List Ev) : List UInt8 := (es.map (evL f)).flatten
def encL (f : Bool) (base : Nat) (es : List Ev) : List UInt8 := putL f base 8 ++ putL f es.length 1 ++ evsL f es
def encE (ver : Int) (base : Nat) (es : List Ev) : List UInt8 × Nat :=
  if ver < 1 ∨ 3 < ver ∨ es = [] ∨ es.all Ev.may = false then ([], 1) else if 16 < es.length then ([], 4) else (encL (decide (ver = 1)) base es, 0)
theorem numLI_le (n : Nat) (s : Int) : (numLI n s).length ≤ 8 := by
  unfold numLI
  split
  · rw [numL_length]; omega
  · simp
theorem putL_le (f : Bool) (n : Nat) (s : Int) (h : U64 n) : (putL f n s).length ≤ 10 := by
  unfold putL
  split
  · have := numLI_le n s; omega
  · exact varL_len10 h
theorem may_bounds {e : Ev} (h : e.may = true) : (e.k = 1 ∨ e.k = 2 ∨ e.k = 3 ∨ e.k = 4) ∧ e.t.length ≤ 64 ∧ 0 ≤ e.x ∧ e.x ≤ 80 ∧ 0 ≤ e.y ∧ e.y ≤ 24 ∧ 0 ≤ e.b ∧ e.b ≤ 255 := by
  have := of_decide_eq_true h
  unfold mayP at this
  omega
theorem u64_small {n : Nat} (h : n ≤ 1000000) : U64 n := by unfold U64; omega
theorem evL_le (f : Bool) (e : Ev) (h : e.may = true) : (evL f e).length ≤ 100 := by
  obtain ⟨h0, h1, h2, h3, h4, h5, h6, h7⟩ := may_bounds h
  have p0 := putL_le f e.k.toNat 1 (u64_small (by omega))
  have p1 := putL_le f e.t.length 1 (u64_small (by omega))
  have p2 := putL_le f e.x.toNat 1 (u64_small (by omega))
  have p3 := putL_le f e.y.toNat 1 (u64_small (by omega))
  have p4 := putL_le f e.b.toNat 1 (u64_small (by omega))
  unfold evL
  rw [List.length_append]
  split
  · rw [List.length_append]; omega
  · rw [List.length_append, List.length_append]
    split
    · omega
    · simp only [List.length_nil]; omega
theorem evsL_le (f : Bool) : ∀ (es : List Ev), es.all Ev.may = true → (evsL f es).length ≤ 100 * es.length
  | [], _ => by simp [evsL]
  | e :: es, h => by
    rw [List.all_cons, Bool.and_eq_true] at h
    have h1 := evL_le f e h.1
    have h2 := evsL_le f es h.2
    have e1 : evsL f (e :: es) = evL f e ++ evsL f es := rfl
    rw [e1, List.length_append, List.length_cons]
    omega
theorem evsL_take (f : Bool) (es : List Ev) (k : Nat) (h : k < es.length) : evsL f (es.take (k + 1)) = evsL f (es.take k) ++ evL f es[k] := by
  unfold evsL
  rw [List.take_succ_eq_append_getElem h, List.map_append, List.flatten_append, List.map_cons, List.map_nil, List.flatten_cons, List.flatten_nil, List.append_nil]
def preL (f : Bool) (base n : Nat) (es : List Ev) : List UInt8 := putL f base 8 ++ putL f n 1 ++ evsL f es
theorem preL_le (f : Bool) (base n : Nat) (es : List Ev) (hb : U64 base) (hn : n ≤ 16) (hm : es.all Ev.may = true) (hl : es.length ≤ 16) : (preL f base n es).length ≤ 2000 := by
  have p0 := putL_le f base 8 hb
  have p1 := putL_le f n 1 (u64_small (by omega))
  have p2 := evsL_le f es hm
  unfold preL
  rw [List.length_append, List.length_append]
  omega
theorem all_take {es : List Ev} (h : es.all Ev.may = true) (k : Nat) : (es.take k).all Ev.may = true := by
  rw [List.all_eq_true] at h ⊢
  intro e he
  exact h e (List.mem_of_mem_take he)
end Go.Proofs.Ytgnciejbhaebeaa

/- What an inbox and a nil queue answer. Conditions: events that can be read; lengths that fit. -/
namespace Go.Proofs.Ytgnciejbhaebeaa
open Go Go.RowKit

/-- Events of one's own. -/
def Evs (ok : Nat → Prop) (w : World) (v : Value) (es : List Ev) : Prop := ∃ ds, EvsO ok w v ds es
def U63 (n : Nat) : Prop := n < 9223372036854775808
theorem u64_wrapN {n : Nat} (h : U64 n) : IntKind.u64.wrap (n : Int) = (n : Int) := by
  unfold U64 at h
  unfold IntKind.wrap
  simp [IntKind.bits, IntKind.signed]
  omega
/-- Block b is an inbox to which so many came. -/
def Ib (w : World) (b got : Nat) : Prop := w.heap[b]? = some (.cells #[.int .u64 (got : Int)] 118 (0, 0))
section
variable {w w' : World} {b got : Nat}
theorem Ib.cell (h : Ib w b got) : w.cell? ⟨b, 0, none⟩ = some (.int .u64 (got : Int)) := by rw [heap_cell h]; rfl
theorem Ib.free (h : Ib w b got) : w.frozen? ⟨b, 0, none⟩ = false := heap_free h 0
theorem Ib.lt (h : Ib w b got) : b < w.heap.size := heap_lt h
theorem Ib.below (h : Ib w b got) (hb : Below w.heap.size w w') : Ib w' b got := (hb.block b h.lt).trans h
theorem Ib.keep (h : Ib w b got) (hb : w'.heap[b]? = w.heap[b]?) : Ib w' b got := hb.trans h
theorem Ib.set (h : Ib w b got) (m : Nat) : Ib (w.setCell ⟨b, 0, none⟩ (.int .u64 (m : Int))) b m := by
  unfold Ib
  rw [heap_set h]
  rfl
end
set_option maxRecDepth 100000 in
theorem NewInbox_c (w : World) : Calls Try.prog 28 #[] w fun r w' => r = .returned (.pointer (some ⟨w.heap.size, 0, none⟩)) ∧ Ib w' w.heap.size 0 ∧ Below w.heap.size w w' := by
  have k0 : Below w.heap.size w (w.alloc (.cells #[.int .u64 0] 118)) := (Below.refl _ _).alloc (Nat.le_refl _) _
  have h0 : Ib (w.alloc (.cells #[.int .u64 0] 118)) w.heap.size 0 := heap_alloc_new w _
  have H0 := Lib.hid h0; clear h0
  go_enter Try.func28, Try.ntmps28
  go_wp2_with (fail)
  go_ret
  exact ⟨rfl, H0.out, k0⟩
set_option maxRecDepth 100000 in
theorem NewQueue_c (w : World) : Calls Try.prog 25 #[] w fun r w' => r = .returned (.pointer (some ⟨w.heap.size, 0, none⟩)) ∧ w'.heap[w.heap.size]? = some (.cells #[.int .u64 0, .slice none 0 0] 116 (0, 0)) ∧ Below w.heap.size w w' ∧ w'.heap.size = w.heap.size + 1 := by
  have k0 : Below w.heap.size w (w.alloc (.cells #[.int .u64 0, .slice none 0 0] 116)) := (Below.refl _ _).alloc (Nat.le_refl _) _
  have h0 : (w.alloc (.cells #[.int .u64 0, .slice none 0 0] 116)).heap[w.heap.size]? = some (.cells #[.int .u64 0, .slice none 0 0] 116 (0, 0)) := heap_alloc_new w _
  have H0 := Lib.hid h0; clear h0
  go_enter Try.func25, Try.ntmps25
  go_wp2_with (fail)
  go_ret
  exact ⟨rfl, H0.out, k0, by simp⟩
set_option maxRecDepth 100000 in
theorem Got_c (b got : Nat) (w : World) (h : Ib w b got) : Calls Try.prog 37 #[.pointer (some ⟨b, 0, none⟩)] w fun r w' => r = .returned (.int .u64 (got : Int)) ∧ w = w' := by
  have c0 := h.cell
  go_enter Try.func37, Try.ntmps37
  go_wp2
  go_ret
  exact ⟨rfl, rfl⟩
set_option maxRecDepth 100000 in
theorem Got_n (w : World) : Calls Try.prog 37 #[.pointer none] w fun r w' => r = .returned (.int .u64 0) ∧ w = w' := by
  go_enter Try.func37, Try.ntmps37
  go_wp2
  go_ret
  exact ⟨rfl, rfl⟩
set_option maxRecDepth 100000 in
theorem Accepted_n (w : World) : Calls Try.prog 36 #[.pointer none] w fun r w' => r = .returned (.int .u64 0) ∧ w = w' := by
  go_enter Try.func36, Try.ntmps36
  go_wp2
  go_ret
  exact ⟨rfl, rfl⟩
set_option maxRecDepth 100000 in
theorem Batch_n (w : World) : Calls Try.prog 34 #[.pointer none] w fun r w' => r = .returned (.tuple #[.int .u64 0, .slice none 0 0]) ∧ w = w' := by
  go_enter Try.func34, Try.ntmps34
  go_wp2
  go_ret2
  exact ⟨rfl, rfl⟩
set_option maxRecDepth 100000 in
theorem Ack_n (n : Int) (w : World) : Calls Try.prog 27 #[.pointer none, .int .u64 n] w fun r w' => r = .returned (.int .i64 0) ∧ w = w' := by
  go_enter Try.func27, Try.ntmps27
  go_wp2
  go_ret
  exact ⟨rfl, rfl⟩
set_option maxRecDepth 100000 in
theorem Push_n (k x y b : Int) (A : Option Addr) (n c : Nat) (w : World) : Calls Try.prog 26 #[.pointer none, .agg #[.int .i64 k, .slice A n c, .int .i64 x, .int .i64 y, .int .i64 b]] w fun r w' => r = .returned (.tuple #[.int .u64 0, .int .i64 1]) ∧ Below w.heap.size w w' := by
  have kb : Below w.heap.size w (w.alloc (.cells #[.int .i64 k, .slice A n c, .int .i64 x, .int .i64 y, .int .i64 b] 36)) := (Below.refl _ _).alloc (Nat.le_refl _) _
  go_enter Try.func26, Try.ntmps26
  go_wp2
  go_ret2
  exact ⟨rfl, kb⟩
set_option maxRecDepth 100000 in
theorem Take_n (base : Int) (A : Option Addr) (n c : Nat) (w : World) : Calls Try.prog 32 #[.pointer none, .int .u64 base, .slice A n c] w fun r w' => r = .returned (.tuple #[.slice none 0 0, .int .i64 1]) ∧ w = w' := by
  go_enter Try.func32, Try.ntmps32
  go_wp2
  go_ret2
  exact ⟨rfl, rfl⟩

/-- What an inbox takes: the new ones, the error, how many came. -/
def tkR (got base : Nat) (es : List Ev) : List Ev × Nat × Nat :=
  if es = [] ∨ 16 < es.length then ([], 1, got) else if got < base then ([], 15, got) else if es.length ≤ got - base then ([], 16, got) else (es.drop (got - base), 0, got + (es.length - (got - base)))
theorem EvsR.cut {ok : Nat → Prop} {w : World} {A : Option Addr} {ds : List EvV} {es : List Ev} (h : EvsR ok w A ds es) {k c : Nat} (hk : k ≤ es.length) (hc : es.length ≤ c) : EvsR ok w (if c = k then A else A.map (fun x => x.add (k * 5))) (ds.drop k) (es.drop k) := by
  have hl := h.len
  have hcd : cellsV (ds.drop k) = (cellsV ds).drop (k * 5) := by
    have e : cellsV ds = cellsV (ds.take k) ++ cellsV (ds.drop k) := by rw [← cellsV_append, List.take_append_drop]
    rw [e, List.drop_left' (by rw [cellsV_length, List.length_take]; omega)]
  refine ⟨by rw [List.length_drop, List.length_drop, hl], ?_, fun h0 a e => ?_, fun i h1 h2 => ?_⟩
  · rw [hcd]
    rcases h.row with h2 | ⟨b, off, rfl, hb, hcc⟩
    · left; rw [h2]; simp
    · by_cases e : c = k
      · left
        apply List.eq_nil_of_length_eq_zero
        rw [List.length_drop, cellsV_length]; omega
      · rw [if_neg e]
        refine .inr ⟨b, off + k * 5, ?_, hb, fun j hj => ?_⟩
        · unfold Addr.add
          by_cases h0 : k * 5 = 0
          · have : k = 0 := by omega
            subst this; simp
          · simp [h0]
        · simp only [List.length_drop] at hj
          rw [Nat.add_assoc, hcc (k * 5 + j) (by omega)]
          simp
  · rw [List.length_drop] at h0
    split at e
    · exact h.ok_ (by omega) a e
    · obtain ⟨a', ha, rfl⟩ := Option.map_eq_some_iff.1 e
      have := h.ok_ (by omega) a' ha
      unfold Addr.add
      split <;> exact this
  · have h1' : k + i < ds.length := by rw [List.length_drop] at h1; omega
    have h2' : k + i < es.length := by omega
    have := h.each (k + i) h1' h2'
    rw [List.getElem_drop, List.getElem_drop]
    exact this

set_option maxRecDepth 100000 in
set_option maxHeartbeats 2000000 in
theorem Take24_c (ok : Nat → Prop) (b got base : Nat) (A : Option Addr) (n c : Nat) (ds : List EvV) (es : List Ev) (w : World) (hg : U63 got) (_hu : U64 base) (hi : Ib w b got) (hn : es.length = n) (hr : EvsR ok w A ds es) (hc : n ≤ c) (_hm : c ≤ maxLen) (hl : n ≤ 140737488355328) :
    Calls Try.prog 32 #[.pointer (some ⟨b, 0, none⟩), .int .u64 base, .slice A n c] w fun r w' => ∃ v, r = .returned (.tuple #[v, .int .i64 ((tkR got base es).2.1 : Int)]) ∧ Evs (w.heap.size ≤ ·) w' v (tkR got base es).1 ∧ Ib w' b (tkR got base es).2.2 ∧ w.grownBy w' (some b) := by
  have HN := Lib.hid hn; clear hn
  have c0 := hi.cell
  have HI := Lib.hid hi; clear hi
  obtain ⟨L, er, gt, eR⟩ : ∃ L er gt, tkR got base es = (L, er, gt) := ⟨_, _, _, rfl⟩
  rw [eR]
  have ER := Lib.hid eR; clear eR
  show Calls _ _ _ _ fun r w' => ∃ v, r = .returned (.tuple #[v, .int .i64 (er : Int)]) ∧ Evs (w.heap.size ≤ ·) w' v L ∧ Ib w' b gt ∧ w.grownBy w' (some b)
  have nil_ : ∀ w', EvsO (w.heap.size ≤ ·) w' (.slice none 0 0) [] [] := fun w' => ⟨rfl, World.ownsRow_nil _ _ _ _, fun k e => (by cases e), fun i h => absurd h (by simp)⟩
  have NIL := Lib.hid nil_; clear nil_
  rcases Nat.eq_zero_or_pos n with h0 | h0
  · have hR : tkR got base es = ([], 1, got) := by rw [tkR, if_pos (.inl (List.eq_nil_of_length_eq_zero (HN.out.trans h0)))]
    rw [ER.out] at hR
    injection hR with r1 r2
    injection r2 with r2 r3
    have r3 := r3.symm
    subst r1 r2 r3 h0
    go_enter Try.func32, Try.ntmps32
    go_wp2_with (fail)
    go_ret2
    exact ⟨_, rfl, ⟨[], NIL.out _⟩, HI.out, World.grownBy.refl _ _⟩
  have d3 : ((n : Int) == 0) = false := by rw [beq_eq_false_iff_ne]; omega
  by_cases hbig : 16 < n
  · have hR : tkR got base es = ([], 1, got) := by rw [tkR, if_pos (.inr (by rw [HN.out]; exact hbig))]
    rw [ER.out] at hR
    injection hR with r1 r2
    injection r2 with r2 r3
    have r3 := r3.symm
    subst r1 r2 r3
    have d4 : decide ((16 : Int) < (n : Int)) = true := decide_eq_true (by omega)
    clear hbig
    go_enter Try.func32, Try.ntmps32
    go_wp2_with (fail)
    go_ret2
    exact ⟨_, rfl, ⟨[], NIL.out _⟩, HI.out, World.grownBy.refl _ _⟩
  have hnb : ¬ (es = [] ∨ 16 < es.length) := by
    rintro (h | h)
    · have := HN.out; rw [h] at this; simp at this; omega
    · rw [HN.out] at h; exact hbig h
  have d4 : decide ((16 : Int) < (n : Int)) = false := decide_eq_false (by omega)
  have hsm : n ≤ 16 := by omega
  clear hbig
  rcases Nat.lt_or_ge got base with hgb | hgb
  · have hR : tkR got base es = ([], 15, got) := by rw [tkR, if_neg hnb, if_pos hgb]
    rw [ER.out] at hR
    injection hR with r1 r2
    injection r2 with r2 r3
    have r3 := r3.symm
    subst r1 r2 r3
    have d5 : decide (got < base) = true := decide_eq_true (by omega)
    clear hnb hgb
    go_enter Try.func32, Try.ntmps32
    go_wp2_with (fail)
    go_ret2
    exact ⟨_, rfl, ⟨[], NIL.out _⟩, HI.out, World.grownBy.refl _ _⟩
  have d5 : decide (got < base) = false := decide_eq_false (by omega)
  obtain ⟨K, eK⟩ : ∃ K, K = got - base := ⟨_, rfl⟩
  have wd : IntKind.u64.wrap ((got : Int) - (base : Int)) = (K : Int) := by
    have : (got : Int) - (base : Int) = (K : Int) := by omega
    rw [this]
    exact u64_wrapN (by unfold U63 at hg; unfold U64; omega)
  have wn : IntKind.u64.wrap (n : Int) = (n : Int) := u64_wrapN (by unfold U64; omega)
  rcases Nat.lt_or_ge K n with hKn | hKn
  · have hR : tkR got base es = (es.drop K, 0, got + (n - K)) := by rw [tkR, if_neg hnb, if_neg (by omega), ← eK, HN.out, if_neg (by omega)]
    rw [ER.out] at hR
    injection hR with r1 r2
    injection r2 with r2 r3
    subst r2
    have d6 : decide (n ≤ K) = false := decide_eq_false (by omega)
    have R1 := Lib.hid r1; have R3 := Lib.hid r3
    have wa : IntKind.u64.wrap ((got : Int) + ((n - K : Nat) : Int)) = ((got + (n - K) : Nat) : Int) := by
      rw [show (got : Int) + ((n - K : Nat) : Int) = ((got + (n - K) : Nat) : Int) by omega]
      exact u64_wrapN (by unfold U63 at hg; unfold U64; omega)
    have wn2 : IntKind.u64.wrap ((n - K : Nat) : Int) = ((n - K : Nat) : Int) := u64_wrapN (by unfold U64; omega)
    have cut := hr.cut (k := K) (c := c) (by rw [HN.out]; omega) (by rw [HN.out]; exact hc)
    have CUT := Lib.hid cut
    have EK := Lib.hid eK
    clear hnb hgb r1 r3 eK cut hr
    go_enter Try.func32, Try.ntmps32
    go_wp2_with (fail)
    have cut := CUT.out
    rw [if_neg (by omega)] at cut
    refine (clone_c ok _ (n - K) (c - K) _ _ w (by rw [List.length_drop, HN.out]) cut (by omega)).mono ?_
    rintro r w1 ⟨v, ds', rfl, ho, hb⟩
    obtain ⟨A', c', rfl, p1, p2, p3⟩ := ho.form
    have hI1 := HI.out.below hb
    have hlen : (es.drop K).length = n - K := by rw [List.length_drop, HN.out]
    rw [hlen] at p1 ho ⊢
    have c1 := hI1.cell
    have f1 := hI1.free
    have HO := Lib.hid ho; clear ho
    have HI1 := Lib.hid hI1; clear hI1
    have HB := Lib.hid hb; clear hb
    have HL := Lib.hid hlen
    clear cut c0 p1 p2 p3 hlen
    go_wp2_with (fail)
    go_ret2
    have hlt := HI.out.lt
    refine ⟨_, rfl, ⟨ds', ?_⟩, ?_, ?_⟩
    · rw [R1.out]
      refine HO.out.frame (fun k hk _ => heap_far _ ?_)
      have : w.heap.size ≤ k := hk
      show k ≠ b; omega
    · rw [R3.out]
      exact HI1.out.set _
    · exact only_trans (grownBy_of_below HB.out (some b)) (only_set b 0 _)
  · have hR : tkR got base es = ([], 16, got) := by rw [tkR, if_neg hnb, if_neg (by omega), ← eK, HN.out, if_pos hKn]
    rw [ER.out] at hR
    injection hR with r1 r2
    injection r2 with r2 r3
    have r3 := r3.symm
    subst r1 r2 r3
    have d6 : decide (n ≤ K) = true := decide_eq_true (by omega)
    clear hnb hgb hKn eK
    go_enter Try.func32, Try.ntmps32
    go_wp2_with (fail)
    go_ret2
    exact ⟨_, rfl, ⟨[], NIL.out _⟩, HI.out, World.grownBy.refl _ _⟩
end Go.Proofs.Ytgnciejbhaebeaa

/- What tlv.lay answers: a list's bytes. Conditions: kinds and bytes that may be; no more items than so many. -/
namespace Go.Proofs.Ytgnciejbhaebeaa
open Go Go.RowKit

theorem Rd.grownS {w w' : World} {A : Option Addr} {vs : List Value} (h : Rd w A vs) {row : Option Nat} (hg : w.grownBy w' row) (hne : vs ≠ [] → ∀ b off, A = some ⟨b, off, none⟩ → row ≠ some b) : Rd w' A vs := by
  by_cases hv : vs = []
  · exact .inl hv
  · exact h.grown hg (hne hv)

set_option maxRecDepth 100000 in
set_option maxHeartbeats 4000000 in
theorem lay_c : ∀ (M : Nat) (f : Fo), f.size = M → f.good → f.size ≤ 100000 → ∀ (ok : Nat → Prop) (A : Option Addr) (n c : Nat) (w : World), f.len = n → FoR ok w A 0 f → n ≤ 2199023255488 →
    Calls Try.prog 66 #[.slice A n c] w fun r w' => ∃ v, r = .returned v ∧ OwnB w' w.heap.size v (layL f) ∧ Below w.heap.size w w' := by
  intro M
  induction M using Nat.strongRecOn with
  | _ M ih =>
    intro f hM hgood hsz ok A n c w hn h1 hl
    have IH := Lib.hid ih; clear ih
    have HN := Lib.hid hn; clear hn
    have H1 := Lib.hid h1; clear h1
    have HM := Lib.hid hM; clear hM
    have HG := Lib.hid hgood; clear hgood
    have HSZ := Lib.hid hsz; clear hsz
    have HLE : Hid ((layL f).length ≤ 4116 * 100000) := Lib.hid (by have := layL_le f HG.out HSZ.out; have := HSZ.out; omega)
    go_enter Try.func66, Try.ntmps66
    go_wp2_with (fail)
    go_loopw [3, 10] (fun v i wr => ∃ (k : Nat) (r : Fo) (P : List UInt8), i = .int .i64 k ∧ Hid (k + r.len = n) ∧ Hid (FoR ok w A k r) ∧ Hid r.good ∧ Hid (r.size ≤ f.size) ∧ Hid (OwnB wr w.heap.size v P) ∧ Hid (layL f = P ++ layL r) ∧ Below w.heap.size w wr) (fun _ i _ => n - (intOf i).toNat)
    case atStart => exact ⟨0, f, [], rfl, Lib.hid (by rw [HN.out]; omega), H1, HG, Lib.hid (Nat.le_refl _), Lib.hid (Own.nil_ _ _ _), Lib.hid rfl, Below.refl _ _⟩
    case round =>
      obtain ⟨k, r, P, rfl, HK, R1, HGr, HS, HO, HL, kb⟩ := hrel
      cases r with
      | nil =>
        have hk : k = n := HK.out
        have hk' : (n : Int) ≤ (k : Int) := by omega
        clear hk
        go_wp2_with (fail)
        go_ret
        exact ⟨_, rfl, by rw [HL.out, layL, List.append_nil]; exact HO.out, kb⟩
      | cons z cr li bs sub rest =>
        obtain ⟨⟨b1, o1, At1, m1, cm1, As1, e1, rfl, hb1, -, ⟨x0, x1, x2, x3, x4⟩, t1, s1, l1, l2, l3⟩, r1⟩ := R1.out.one
        obtain ⟨g1, g2, g3, g4, -, g5⟩ := t1
        obtain ⟨z1, z2, z3, zs, zr⟩ := HGr.out
        have hkn : k < n := by have := HK.out; simp only [Fo.len] at this; omega
        have hlt' : (k : Int) < (n : Int) := by omega
        have R1b := Lib.hid r1
        have S1 := Lib.hid s1
        have G1 := Lib.hid g1
        have G2 := Lib.hid g2
        have ZS := Lib.hid zs
        have ZR := Lib.hid zr
        have HSb : Hid (rest.size ≤ f.size) := Lib.hid (by have := HS.out; simp only [Fo.size] at this; omega)
        have HSs : Hid (sub.size < M ∧ sub.size ≤ 100000) := Lib.hid (by have := HS.out; have := HM.out; have := HSZ.out; simp only [Fo.size] at *; omega)
        have HKb : Hid (k + 1 + rest.len = n) := Lib.hid (by have := HK.out; simp only [Fo.len] at this; omega)
        obtain ⟨sl, esl⟩ : ∃ sl, sl = sub.len := ⟨_, rfl⟩
        rw [← esl] at x4 l1 l3
        have ESL := Lib.hid esl
        rw [← kb.cell (p := ⟨b1, _, none⟩) hb1] at x0 x1 x2 x3 x4
        have hPl : Hid (P.length ≤ 4116 * 100000) := Lib.hid (by have := HLE.out; rw [HL.out, List.length_append] at this; omega)
        have hbs : Hid (bs.length ≤ 4096) := Lib.hid z3
        have KB := Lib.hid kb
        have HB1 := Lib.hid hb1
        obtain ⟨wa, ewa⟩ : ∃ wa, wa = wr.alloc (.cells #[.int .i64 z, .bool cr, .bool li, .slice At1 m1 cm1, .slice As1 sl e1] 95) := ⟨_, rfl⟩
        have hba : Below wr.heap.size wr wa := by rw [ewa]; exact (Below.refl _ _).alloc (Nat.le_refl _) _
        have hka : Below w.heap.size w wa := kb.trans (hba.mono kb.size)
        have HBA := Lib.hid hba
        have HKA := Lib.hid hka
        have EWA := Lib.hid ewa
        clear g1 g2 r1 s1 zs zr HK HS esl R1 HGr z3 kb hb1 ewa hba hka g3 g4
        cases cr with
        | true =>
          cases li with
          | true =>
            obtain ⟨N, eN⟩ : ∃ N, N = numI z true true := ⟨_, rfl⟩
            have hN : (N : Int) = 4 * z + 2 + 1 := by rw [eN]; unfold numI; simp; omega
            have hN2 : N ≤ 4003 := by rw [eN]; exact numI_le _ _ z1 z2
            have wN : IntKind.u64.wrap (4 * z + 2 + 1) = (N : Int) := by rw [← hN]; exact u64_wrapN (by unfold U64; omega)
            have EN := Lib.hid eN
            clear eN hN
            go_wp2_with (fail)
            rw [← EWA.out]
            refine (IH.out sub.size HSs.out.1 sub rfl ZS.out HSs.out.2 ok As1 sl e1 wa ESL.out.symm (S1.out.below HKA.out) l3).mono ?_
            rintro r w1 ⟨vi, rfl, hoi, hbi⟩
            obtain ⟨Ai, ci, evi, i1, i2, i3, i4⟩ := OwnB.form hoi
            obtain ⟨I, eI⟩ : ∃ I, I = layL sub := ⟨_, rfl⟩
            have hIl : I.length ≤ 4116 * 100000 := by rw [eI]; have := layL_le sub ZS.out HSs.out.2; have := HSs.out.2; omega
            rw [← eI] at evi i1 i3
            obtain ⟨ni, eni⟩ : ∃ ni, ni = I.length := ⟨_, rfl⟩
            rw [← eni] at evi hIl
            subst evi
            have hsep : I.map bv ≠ [] → ∀ b off, Ai = some ⟨b, off, none⟩ → b < w1.heap.size ∧ ∀ j, u3.ownBlock = some j → j ≠ b := fun _ b off e => by
              have q := i4 _ e
              refine ⟨q.2.1, fun j hj => ?_⟩
              have := (Own.lt HO.out j hj).2
              have := HBA.out.size
              have : wa.heap.size ≤ b := q.1
              omega
            have hb1' : Below wr.heap.size wr w1 := HBA.out.trans (hbi.mono HBA.out.size)
            have EI := Lib.hid eI
            have ENI := Lib.hid eni
            clear hoi hbi eI i1 i2 i4 eni
            go_wp2_with (fail)
            refine (Var_c N w1 (by unfold U64; omega)).mono ?_
            rintro r w2 ⟨v2, rfl, ho2, hb2⟩
            obtain ⟨A2, c2, ev2, -, -, R2', -⟩ := OwnB.form ho2
            obtain ⟨n2, en2⟩ : ∃ n2, n2 = (varL N).length := ⟨_, rfl⟩
            have hn2 : n2 ≤ 10 := by rw [en2]; exact varL_10 (by omega)
            rw [← en2] at ev2
            subst ev2
            have R2 := Lib.hid R2'
            have EN2 := Lib.hid en2
            have HB2 := Lib.hid (hb1'.trans (hb2.mono hb1'.size))
            have HZ2 := Lib.hid hb2.size
            have HO2 := Lib.hid (Own.below HO.out HB2.out)
            have HK2 := Lib.hid (KB.out.trans (HB2.out.mono KB.out.size))
            have RI2 := Lib.hid (i3.below hb2)
            have SEP := Lib.hid hsep
            have hz2 : w.heap.size ≤ w2.heap.size := HK2.out.size
            have wni := u64_wrapN (n := ni) (by unfold U64; omega)
            clear ho2 hb2 R2' en2 i3 hsep
            go_wp2_with (at_builtin; refine wpList_appB _ rfl (.tmp 30) (.tmp 33) rfl w.heap.size _ P rfl HO2.out A2 n2 c2 (varL N) rfl EN2.out.symm R2.out (by have := hPl.out; omega) hz2 ?_; intro v3 w3 ho3 hg3 hv3; have HO3 := Lib.hid ho3; have HK3 := Lib.hid (HK2.out.grown hg3 HK2.out.size (fun j hj => (Own.lt HO2.out j hj).1)); have RI3 := Lib.hid (RI2.out.grownS hg3 (fun hne b off e ej => (SEP.out hne b off e).2 b ej rfl)); have HV3 : Hid (v3.ownBlock = u3.ownBlock ∨ v3.ownBlock = some w2.heap.size) := Lib.hid hv3; have HZ3 := Lib.hid hg3.size; clear ho3 hg3 hv3 hz2)
            refine (Var_c ni w3 (by unfold U64; omega)).mono ?_
            rintro r w4 ⟨v4, rfl, ho4, hb4⟩
            obtain ⟨A4, c4, ev4, -, -, R4', -⟩ := OwnB.form ho4
            obtain ⟨n4, en4⟩ : ∃ n4, n4 = (varL ni).length := ⟨_, rfl⟩
            have hn4 : n4 ≤ 10 := by rw [en4]; exact varL_10 (by omega)
            rw [← en4] at ev4
            subst ev4
            have R4 := Lib.hid R4'
            have EN4 := Lib.hid en4
            have HO4 := Lib.hid (Own.below HO3.out hb4)
            have HK4 := Lib.hid (HK3.out.trans (hb4.mono HK3.out.size))
            have RI4 := Lib.hid (RI3.out.below hb4)
            have hz4 : w.heap.size ≤ w4.heap.size := HK4.out.size
            have hP3 : Hid ((P ++ varL N).length ≤ 4116 * 100000 + 10) := Lib.hid (by rw [List.length_append, ← EN2.out]; have := hPl.out; omega)
            clear ho4 hb4 R4' en4 wni
            go_wp2_with (first
              | (at_builtin; refine wpList_appB _ rfl (.tmp 34) (.tmp 38) rfl w.heap.size _ (P ++ varL N) rfl HO4.out A4 n4 c4 (varL ni) rfl EN4.out.symm R4.out (by have := hP3.out; omega) hz4 ?_; intro v5 w5 ho5 hg5 hv5; have HO5 := Lib.hid ho5; have HK5 := Lib.hid (HK4.out.grown hg5 HK4.out.size (fun j hj => (Own.lt HO4.out j hj).1)); have RI5 := Lib.hid (RI4.out.grownS hg5 (fun hne b off e ej => Or.elim HV3.out (fun q => (SEP.out hne b off e).2 b (q.symm.trans ej) rfl) (fun q => by (have ej' := Option.some.inj (q.symm.trans ej); have := (SEP.out hne b off e).1; have := HZ2.out; omega)))); have hz5 : w.heap.size ≤ w5.heap.size := HK5.out.size; have hP5 : Hid ((P ++ varL N ++ varL ni).length ≤ 4116 * 100000 + 20) := Lib.hid (by rw [List.length_append, ← EN4.out]; have := hP3.out; omega); clear ho5 hg5 hv5 hz4)
              | (at_builtin; refine wpList_appB _ rfl (.tmp 39) (.tmp 40) rfl w.heap.size _ (P ++ varL N ++ varL ni) rfl HO5.out Ai ni ci I rfl ENI.out.symm RI5.out (by have := hP5.out; omega) hz5 ?_; intro v6 w6 ho6 hg6 _; have HO6 := Lib.hid ho6; have HK6 := Lib.hid (HK5.out.grown hg6 HK5.out.size (fun j hj => (Own.lt HO5.out j hj).1)); clear ho6 hg6))
            go_roundw
            case rel => exact ⟨k + 1, rest, P ++ varL N ++ varL ni ++ I, by go_num, HKb, R1b, ZR, HSb, HO6, Lib.hid (by rw [HL.out, layL, EN.out, ENI.out, EI.out]; simp only [List.append_assoc]; rfl), HK6.out⟩
            case measure => simp [intOf]; omega
          | false =>
            obtain ⟨N, eN⟩ : ∃ N, N = numI z true false := ⟨_, rfl⟩
            have hN : (N : Int) = 4 * z + 2 := by rw [eN]; unfold numI; simp; omega
            have hN2 : N ≤ 4003 := by rw [eN]; exact numI_le _ _ z1 z2
            have wN : IntKind.u64.wrap (4 * z + 2) = (N : Int) := by rw [← hN]; exact u64_wrapN (by unfold U64; omega)
            have EN := Lib.hid eN
            clear eN hN
            obtain ⟨w1, ew1⟩ : ∃ w1, w1 = wa := ⟨_, rfl⟩
            obtain ⟨I, eI⟩ : ∃ I, I = bs := ⟨_, rfl⟩
            have eni : m1 = I.length := by rw [eI]; exact G1.out.symm
            obtain ⟨Ai, eAi⟩ : ∃ Ai, Ai = At1 := ⟨_, rfl⟩
            have i3 : Rd w1 Ai (I.map bv) := by rw [ew1, eAi, eI]; exact G2.out.below HKA.out
            have hIl : m1 ≤ 4116 * 100000 := by rw [eni, eI]; have := hbs.out; omega
            have hsep : I.map bv ≠ [] → ∀ b off, Ai = some ⟨b, off, none⟩ → b < w1.heap.size ∧ ∀ j, u3.ownBlock = some j → j ≠ b := fun hne b off e => by
              rcases G2.out with h | ⟨b', off', e', hb', _⟩
              · exact absurd (by rw [eI]; exact h) hne
              · rw [eAi, e'] at e; injection e with e; injection e with e
                have := HKA.out.size
                refine ⟨by rw [ew1]; omega, fun j hj => ?_⟩
                have := (Own.lt HO.out j hj).1
                omega
            have hb1' : Below wr.heap.size wr w1 := by rw [ew1]; exact HBA.out
            have EI := Lib.hid eI
            have EW1 := Lib.hid ew1
            have EAI := Lib.hid eAi
            have ENI := Lib.hid eni
            clear eI ew1 eAi eni
            go_wp2_with (fail)
            rw [← EWA.out, ← EW1.out, ← EAI.out]
            refine (Var_c N w1 (by unfold U64; omega)).mono ?_
            rintro r w2 ⟨v2, rfl, ho2, hb2⟩
            obtain ⟨A2, c2, ev2, -, -, R2', -⟩ := OwnB.form ho2
            obtain ⟨n2, en2⟩ : ∃ n2, n2 = (varL N).length := ⟨_, rfl⟩
            have hn2 : n2 ≤ 10 := by rw [en2]; exact varL_10 (by omega)
            rw [← en2] at ev2
            subst ev2
            have R2 := Lib.hid R2'
            have EN2 := Lib.hid en2
            have HB2 := Lib.hid (hb1'.trans (hb2.mono hb1'.size))
            have HZ2 := Lib.hid hb2.size
            have HO2 := Lib.hid (Own.below HO.out HB2.out)
            have HK2 := Lib.hid (KB.out.trans (HB2.out.mono KB.out.size))
            have RI2 := Lib.hid (i3.below hb2)
            have SEP := Lib.hid hsep
            have hz2 : w.heap.size ≤ w2.heap.size := HK2.out.size
            have wni := u64_wrapN (n := m1) (by unfold U64; omega)
            clear ho2 hb2 R2' en2 i3 hsep
            go_wp2_with (at_builtin; refine wpList_appB _ rfl (.tmp 30) (.tmp 33) rfl w.heap.size _ P rfl HO2.out A2 n2 c2 (varL N) rfl EN2.out.symm R2.out (by have := hPl.out; omega) hz2 ?_; intro v3 w3 ho3 hg3 hv3; have HO3 := Lib.hid ho3; have HK3 := Lib.hid (HK2.out.grown hg3 HK2.out.size (fun j hj => (Own.lt HO2.out j hj).1)); have RI3 := Lib.hid (RI2.out.grownS hg3 (fun hne b off e ej => (SEP.out hne b off e).2 b ej rfl)); have HV3 : Hid (v3.ownBlock = u3.ownBlock ∨ v3.ownBlock = some w2.heap.size) := Lib.hid hv3; have HZ3 := Lib.hid hg3.size; clear ho3 hg3 hv3 hz2)
            refine (Var_c m1 w3 (by unfold U64; omega)).mono ?_
            rintro r w4 ⟨v4, rfl, ho4, hb4⟩
            obtain ⟨A4, c4, ev4, -, -, R4', -⟩ := OwnB.form ho4
            obtain ⟨n4, en4⟩ : ∃ n4, n4 = (varL m1).length := ⟨_, rfl⟩
            have hn4 : n4 ≤ 10 := by rw [en4]; exact varL_10 (by omega)
            rw [← en4] at ev4
            subst ev4
            have R4 := Lib.hid R4'
            have EN4 := Lib.hid en4
            have HO4 := Lib.hid (Own.below HO3.out hb4)
            have HK4 := Lib.hid (HK3.out.trans (hb4.mono HK3.out.size))
            have RI4 := Lib.hid (RI3.out.below hb4)
            have hz4 : w.heap.size ≤ w4.heap.size := HK4.out.size
            have hP3 : Hid ((P ++ varL N).length ≤ 4116 * 100000 + 10) := Lib.hid (by rw [List.length_append, ← EN2.out]; have := hPl.out; omega)
            clear ho4 hb4 R4' en4 wni
            go_wp2_with (first
              | (at_builtin; refine wpList_appB _ rfl (.tmp 34) (.tmp 38) rfl w.heap.size _ (P ++ varL N) rfl HO4.out A4 n4 c4 (varL m1) rfl EN4.out.symm R4.out (by have := hP3.out; omega) hz4 ?_; intro v5 w5 ho5 hg5 hv5; have HO5 := Lib.hid ho5; have HK5 := Lib.hid (HK4.out.grown hg5 HK4.out.size (fun j hj => (Own.lt HO4.out j hj).1)); have RI5 := Lib.hid (RI4.out.grownS hg5 (fun hne b off e ej => Or.elim HV3.out (fun q => (SEP.out hne b off e).2 b (q.symm.trans ej) rfl) (fun q => by (have ej' := Option.some.inj (q.symm.trans ej); have := (SEP.out hne b off e).1; have := HZ2.out; omega)))); have hz5 : w.heap.size ≤ w5.heap.size := HK5.out.size; have hP5 : Hid ((P ++ varL N ++ varL m1).length ≤ 4116 * 100000 + 20) := Lib.hid (by rw [List.length_append, ← EN4.out]; have := hP3.out; omega); clear ho5 hg5 hv5 hz4)
              | (at_builtin; refine wpList_appB _ rfl (.tmp 39) (.tmp 40) rfl w.heap.size _ (P ++ varL N ++ varL m1) rfl HO5.out Ai m1 cm1 I rfl ENI.out.symm RI5.out (by have := hP5.out; omega) hz5 ?_; intro v6 w6 ho6 hg6 _; have HO6 := Lib.hid ho6; have HK6 := Lib.hid (HK5.out.grown hg6 HK5.out.size (fun j hj => (Own.lt HO5.out j hj).1)); clear ho6 hg6))
            go_roundw
            case rel => exact ⟨k + 1, rest, P ++ varL N ++ varL m1 ++ I, by go_num, HKb, R1b, ZR, HSb, HO6, Lib.hid (by rw [HL.out, layL, EN.out, ENI.out, EI.out]; simp only [List.append_assoc]; rfl), HK6.out⟩
            case measure => simp [intOf]; omega
        | false =>
          cases li with
          | true =>
            obtain ⟨N, eN⟩ : ∃ N, N = numI z false true := ⟨_, rfl⟩
            have hN : (N : Int) = 4 * z + 1 := by rw [eN]; unfold numI; simp; omega
            have hN2 : N ≤ 4003 := by rw [eN]; exact numI_le _ _ z1 z2
            have wN : IntKind.u64.wrap (4 * z + 1) = (N : Int) := by rw [← hN]; exact u64_wrapN (by unfold U64; omega)
            have EN := Lib.hid eN
            clear eN hN
            go_wp2_with (fail)
            rw [← EWA.out]
            refine (IH.out sub.size HSs.out.1 sub rfl ZS.out HSs.out.2 ok As1 sl e1 wa ESL.out.symm (S1.out.below HKA.out) l3).mono ?_
            rintro r w1 ⟨vi, rfl, hoi, hbi⟩
            obtain ⟨Ai, ci, evi, i1, i2, i3, i4⟩ := OwnB.form hoi
            obtain ⟨I, eI⟩ : ∃ I, I = layL sub := ⟨_, rfl⟩
            have hIl : I.length ≤ 4116 * 100000 := by rw [eI]; have := layL_le sub ZS.out HSs.out.2; have := HSs.out.2; omega
            rw [← eI] at evi i1 i3
            obtain ⟨ni, eni⟩ : ∃ ni, ni = I.length := ⟨_, rfl⟩
            rw [← eni] at evi hIl
            subst evi
            have hsep : I.map bv ≠ [] → ∀ b off, Ai = some ⟨b, off, none⟩ → b < w1.heap.size ∧ ∀ j, u3.ownBlock = some j → j ≠ b := fun _ b off e => by
              have q := i4 _ e
              refine ⟨q.2.1, fun j hj => ?_⟩
              have := (Own.lt HO.out j hj).2
              have := HBA.out.size
              have : wa.heap.size ≤ b := q.1
              omega
            have hb1' : Below wr.heap.size wr w1 := HBA.out.trans (hbi.mono HBA.out.size)
            have EI := Lib.hid eI
            have ENI := Lib.hid eni
            clear hoi hbi eI i1 i2 i4 eni
            go_wp2_with (fail)
            refine (Var_c N w1 (by unfold U64; omega)).mono ?_
            rintro r w2 ⟨v2, rfl, ho2, hb2⟩
            obtain ⟨A2, c2, ev2, -, -, R2', -⟩ := OwnB.form ho2
            obtain ⟨n2, en2⟩ : ∃ n2, n2 = (varL N).length := ⟨_, rfl⟩
            have hn2 : n2 ≤ 10 := by rw [en2]; exact varL_10 (by omega)
            rw [← en2] at ev2
            subst ev2
            have R2 := Lib.hid R2'
            have EN2 := Lib.hid en2
            have HB2 := Lib.hid (hb1'.trans (hb2.mono hb1'.size))
            have HZ2 := Lib.hid hb2.size
            have HO2 := Lib.hid (Own.below HO.out HB2.out)
            have HK2 := Lib.hid (KB.out.trans (HB2.out.mono KB.out.size))
            have RI2 := Lib.hid (i3.below hb2)
            have SEP := Lib.hid hsep
            have hz2 : w.heap.size ≤ w2.heap.size := HK2.out.size
            have wni := u64_wrapN (n := ni) (by unfold U64; omega)
            clear ho2 hb2 R2' en2 i3 hsep
            go_wp2_with (at_builtin; refine wpList_appB _ rfl (.tmp 30) (.tmp 33) rfl w.heap.size _ P rfl HO2.out A2 n2 c2 (varL N) rfl EN2.out.symm R2.out (by have := hPl.out; omega) hz2 ?_; intro v3 w3 ho3 hg3 hv3; have HO3 := Lib.hid ho3; have HK3 := Lib.hid (HK2.out.grown hg3 HK2.out.size (fun j hj => (Own.lt HO2.out j hj).1)); have RI3 := Lib.hid (RI2.out.grownS hg3 (fun hne b off e ej => (SEP.out hne b off e).2 b ej rfl)); have HV3 : Hid (v3.ownBlock = u3.ownBlock ∨ v3.ownBlock = some w2.heap.size) := Lib.hid hv3; have HZ3 := Lib.hid hg3.size; clear ho3 hg3 hv3 hz2)
            refine (Var_c ni w3 (by unfold U64; omega)).mono ?_
            rintro r w4 ⟨v4, rfl, ho4, hb4⟩
            obtain ⟨A4, c4, ev4, -, -, R4', -⟩ := OwnB.form ho4
            obtain ⟨n4, en4⟩ : ∃ n4, n4 = (varL ni).length := ⟨_, rfl⟩
            have hn4 : n4 ≤ 10 := by rw [en4]; exact varL_10 (by omega)
            rw [← en4] at ev4
            subst ev4
            have R4 := Lib.hid R4'
            have EN4 := Lib.hid en4
            have HO4 := Lib.hid (Own.below HO3.out hb4)
            have HK4 := Lib.hid (HK3.out.trans (hb4.mono HK3.out.size))
            have RI4 := Lib.hid (RI3.out.below hb4)
            have hz4 : w.heap.size ≤ w4.heap.size := HK4.out.size
            have hP3 : Hid ((P ++ varL N).length ≤ 4116 * 100000 + 10) := Lib.hid (by rw [List.length_append, ← EN2.out]; have := hPl.out; omega)
            clear ho4 hb4 R4' en4 wni
            go_wp2_with (first
              | (at_builtin; refine wpList_appB _ rfl (.tmp 34) (.tmp 38) rfl w.heap.size _ (P ++ varL N) rfl HO4.out A4 n4 c4 (varL ni) rfl EN4.out.symm R4.out (by have := hP3.out; omega) hz4 ?_; intro v5 w5 ho5 hg5 hv5; have HO5 := Lib.hid ho5; have HK5 := Lib.hid (HK4.out.grown hg5 HK4.out.size (fun j hj => (Own.lt HO4.out j hj).1)); have RI5 := Lib.hid (RI4.out.grownS hg5 (fun hne b off e ej => Or.elim HV3.out (fun q => (SEP.out hne b off e).2 b (q.symm.trans ej) rfl) (fun q => by (have ej' := Option.some.inj (q.symm.trans ej); have := (SEP.out hne b off e).1; have := HZ2.out; omega)))); have hz5 : w.heap.size ≤ w5.heap.size := HK5.out.size; have hP5 : Hid ((P ++ varL N ++ varL ni).length ≤ 4116 * 100000 + 20) := Lib.hid (by rw [List.length_append, ← EN4.out]; have := hP3.out; omega); clear ho5 hg5 hv5 hz4)
              | (at_builtin; refine wpList_appB _ rfl (.tmp 39) (.tmp 40) rfl w.heap.size _ (P ++ varL N ++ varL ni) rfl HO5.out Ai ni ci I rfl ENI.out.symm RI5.out (by have := hP5.out; omega) hz5 ?_; intro v6 w6 ho6 hg6 _; have HO6 := Lib.hid ho6; have HK6 := Lib.hid (HK5.out.grown hg6 HK5.out.size (fun j hj => (Own.lt HO5.out j hj).1)); clear ho6 hg6))
            go_roundw
            case rel => exact ⟨k + 1, rest, P ++ varL N ++ varL ni ++ I, by go_num, HKb, R1b, ZR, HSb, HO6, Lib.hid (by rw [HL.out, layL, EN.out, ENI.out, EI.out]; simp only [List.append_assoc]; rfl), HK6.out⟩
            case measure => simp [intOf]; omega
          | false =>
            obtain ⟨N, eN⟩ : ∃ N, N = numI z false false := ⟨_, rfl⟩
            have hN : (N : Int) = 4 * z := by rw [eN]; unfold numI; simp; omega
            have hN2 : N ≤ 4003 := by rw [eN]; exact numI_le _ _ z1 z2
            have wN : IntKind.u64.wrap (4 * z) = (N : Int) := by rw [← hN]; exact u64_wrapN (by unfold U64; omega)
            have EN := Lib.hid eN
            clear eN hN
            obtain ⟨w1, ew1⟩ : ∃ w1, w1 = wa := ⟨_, rfl⟩
            obtain ⟨I, eI⟩ : ∃ I, I = bs := ⟨_, rfl⟩
            have eni : m1 = I.length := by rw [eI]; exact G1.out.symm
            obtain ⟨Ai, eAi⟩ : ∃ Ai, Ai = At1 := ⟨_, rfl⟩
            have i3 : Rd w1 Ai (I.map bv) := by rw [ew1, eAi, eI]; exact G2.out.below HKA.out
            have hIl : m1 ≤ 4116 * 100000 := by rw [eni, eI]; have := hbs.out; omega
            have hsep : I.map bv ≠ [] → ∀ b off, Ai = some ⟨b, off, none⟩ → b < w1.heap.size ∧ ∀ j, u3.ownBlock = some j → j ≠ b := fun hne b off e => by
              rcases G2.out with h | ⟨b', off', e', hb', _⟩
              · exact absurd (by rw [eI]; exact h) hne
              · rw [eAi, e'] at e; injection e with e; injection e with e
                have := HKA.out.size
                refine ⟨by rw [ew1]; omega, fun j hj => ?_⟩
                have := (Own.lt HO.out j hj).1
                omega
            have hb1' : Below wr.heap.size wr w1 := by rw [ew1]; exact HBA.out
            have EI := Lib.hid eI
            have EW1 := Lib.hid ew1
            have EAI := Lib.hid eAi
            have ENI := Lib.hid eni
            clear eI ew1 eAi eni
            go_wp2_with (fail)
            rw [← EWA.out, ← EW1.out, ← EAI.out]
            refine (Var_c N w1 (by unfold U64; omega)).mono ?_
            rintro r w2 ⟨v2, rfl, ho2, hb2⟩
            obtain ⟨A2, c2, ev2, -, -, R2', -⟩ := OwnB.form ho2
            obtain ⟨n2, en2⟩ : ∃ n2, n2 = (varL N).length := ⟨_, rfl⟩
            have hn2 : n2 ≤ 10 := by rw [en2]; exact varL_10 (by omega)
            rw [← en2] at ev2
            subst ev2
            have R2 := Lib.hid R2'
            have EN2 := Lib.hid en2
            have HB2 := Lib.hid (hb1'.trans (hb2.mono hb1'.size))
            have HZ2 := Lib.hid hb2.size
            have HO2 := Lib.hid (Own.below HO.out HB2.out)
            have HK2 := Lib.hid (KB.out.trans (HB2.out.mono KB.out.size))
            have RI2 := Lib.hid (i3.below hb2)
            have SEP := Lib.hid hsep
            have hz2 : w.heap.size ≤ w2.heap.size := HK2.out.size
            have wni := u64_wrapN (n := m1) (by unfold U64; omega)
            clear ho2 hb2 R2' en2 i3 hsep
            go_wp2_with (at_builtin; refine wpList_appB _ rfl (.tmp 30) (.tmp 33) rfl w.heap.size _ P rfl HO2.out A2 n2 c2 (varL N) rfl EN2.out.symm R2.out (by have := hPl.out; omega) hz2 ?_; intro v3 w3 ho3 hg3 hv3; have HO3 := Lib.hid ho3; have HK3 := Lib.hid (HK2.out.grown hg3 HK2.out.size (fun j hj => (Own.lt HO2.out j hj).1)); have RI3 := Lib.hid (RI2.out.grownS hg3 (fun hne b off e ej => (SEP.out hne b off e).2 b ej rfl)); have HV3 : Hid (v3.ownBlock = u3.ownBlock ∨ v3.ownBlock = some w2.heap.size) := Lib.hid hv3; have HZ3 := Lib.hid hg3.size; clear ho3 hg3 hv3 hz2)
            refine (Var_c m1 w3 (by unfold U64; omega)).mono ?_
            rintro r w4 ⟨v4, rfl, ho4, hb4⟩
            obtain ⟨A4, c4, ev4, -, -, R4', -⟩ := OwnB.form ho4
            obtain ⟨n4, en4⟩ : ∃ n4, n4 = (varL m1).length := ⟨_, rfl⟩
            have hn4 : n4 ≤ 10 := by rw [en4]; exact varL_10 (by omega)
            rw [← en4] at ev4
            subst ev4
            have R4 := Lib.hid R4'
            have EN4 := Lib.hid en4
            have HO4 := Lib.hid (Own.below HO3.out hb4)
            have HK4 := Lib.hid (HK3.out.trans (hb4.mono HK3.out.size))
            have RI4 := Lib.hid (RI3.out.below hb4)
            have hz4 : w.heap.size ≤ w4.heap.size := HK4.out.size
            have hP3 : Hid ((P ++ varL N).length ≤ 4116 * 100000 + 10) := Lib.hid (by rw [List.length_append, ← EN2.out]; have := hPl.out; omega)
            clear ho4 hb4 R4' en4 wni
            go_wp2_with (first
              | (at_builtin; refine wpList_appB _ rfl (.tmp 34) (.tmp 38) rfl w.heap.size _ (P ++ varL N) rfl HO4.out A4 n4 c4 (varL m1) rfl EN4.out.symm R4.out (by have := hP3.out; omega) hz4 ?_; intro v5 w5 ho5 hg5 hv5; have HO5 := Lib.hid ho5; have HK5 := Lib.hid (HK4.out.grown hg5 HK4.out.size (fun j hj => (Own.lt HO4.out j hj).1)); have RI5 := Lib.hid (RI4.out.grownS hg5 (fun hne b off e ej => Or.elim HV3.out (fun q => (SEP.out hne b off e).2 b (q.symm.trans ej) rfl) (fun q => by (have ej' := Option.some.inj (q.symm.trans ej); have := (SEP.out hne b off e).1; have := HZ2.out; omega)))); have hz5 : w.heap.size ≤ w5.heap.size := HK5.out.size; have hP5 : Hid ((P ++ varL N ++ varL m1).length ≤ 4116 * 100000 + 20) := Lib.hid (by rw [List.length_append, ← EN4.out]; have := hP3.out; omega); clear ho5 hg5 hv5 hz4)
              | (at_builtin; refine wpList_appB _ rfl (.tmp 39) (.tmp 40) rfl w.heap.size _ (P ++ varL N ++ varL m1) rfl HO5.out Ai m1 cm1 I rfl ENI.out.symm RI5.out (by have := hP5.out; omega) hz5 ?_; intro v6 w6 ho6 hg6 _; have HO6 := Lib.hid ho6; have HK6 := Lib.hid (HK5.out.grown hg6 HK5.out.size (fun j hj => (Own.lt HO5.out j hj).1)); clear ho6 hg6))
            go_roundw
            case rel => exact ⟨k + 1, rest, P ++ varL N ++ varL m1 ++ I, by go_num, HKb, R1b, ZR, HSb, HO6, Lib.hid (by rw [HL.out, layL, EN.out, ENI.out, EI.out]; simp only [List.append_assoc]; rfl), HK6.out⟩
            case measure => simp [intOf]; omega
end Go.Proofs.Ytgnciejbhaebeaa

/- What the reference's row answers. Conditions: depth 1 to 5; from -1 to 400 wanted. -/
namespace Go.Proofs.Ytgnciejbhaebeaa
open Go Go.RowKit
theorem rd_en (w : World) (x : EnV) (t : TypeId) : Rd (w.alloc (.cells #[.int .i64 x.k, .bool x.cr, .bool x.li, .slice x.A x.nb x.cb, .slice x.As x.ns x.cs, .int .i64 x.d, .int .i64 x.ah] t)) (some ⟨w.heap.size, 0, none⟩) (cellsE [x]) := by
  refine .inr ⟨w.heap.size, 0, rfl, by simp, fun j hj => ?_⟩
  rw [cell_of_row _ _ _ _ _ (0, 0) (heap_alloc_new w _)]
  rw [cellsE_length] at hj
  simp only [List.length_singleton] at hj
  have e : cellsE [x] = x.cells := by simp [cellsE]
  simp only [e, Nat.zero_add]
  have : j < 7 := by omega
  match j, this with
  | 0, _ => rfl
  | 1, _ => rfl
  | 2, _ => rfl
  | 3, _ => rfl
  | 4, _ => rfl
  | 5, _ => rfl
  | 6, _ => rfl
set_option maxRecDepth 100000 in
set_option maxHeartbeats 4000000 in
theorem row_c : ∀ (M : Nat) (f : Fo), f.size = M → ∀ (d m : Int), 1 ≤ d → d ≤ 5 → -1 ≤ m → m ≤ 400 → ∀ (ok : Nat → Prop) (A : Option Addr) (n c : Nat) (w : World), f.len = n → FoR ok w A 0 f → n ≤ 2199023255488 →
    Calls Try.prog 65 #[.slice A n c, .int .i64 d, .int .i64 m] w fun r w' => ∃ v ds, r = .returned v ∧ OwnE w' w.heap.size v ds ∧ ds.map EnV.en = rowR f d m ∧ Below w.heap.size w w' := by
  intro M
  induction M using Nat.strongRecOn with
  | _ M ih =>
    intro f hM d m hd1 hd5 hm1 hm4 ok A n c w hn h1 hl
    have IH := Lib.hid ih; clear ih
    have HN := Lib.hid hn; clear hn
    have H1 := Lib.hid h1; clear h1
    have HM := Lib.hid hM; clear hM
    go_enter Try.func65, Try.ntmps65
    go_wp2_with (fail)
    go_loopw [7, 8, 9] (fun v a i wr => ∃ (k : Nat) (r : Fo) (P : List En) (ds : List EnV) (ah : Int), a = .int .i64 ah ∧ i = .int .i64 k ∧ Hid (k + r.len = n) ∧ Hid (FoR ok w A k r) ∧ Hid (r.size ≤ f.size) ∧ Hid (OwnE wr w.heap.size v ds) ∧ Hid (ds.map EnV.en = P.take (m + 1).toNat) ∧ Hid (fullR f d 0 = P ++ fullR r d ah) ∧ Below w.heap.size w wr) (fun _ _ i _ => n - (intOf i).toNat)
    case atStart => exact ⟨0, f, [], [], 0, rfl, rfl, Lib.hid (by rw [HN.out]; omega), H1, Lib.hid (Nat.le_refl _), Lib.hid (World.ownsRow_made w #[] 0 (Nat.le_refl _) (Nat.zero_le _) rfl), Lib.hid (by rw [List.take_nil]; rfl), Lib.hid rfl, (Below.refl _ _).alloc (Nat.le_refl _) _⟩
    case round =>
      obtain ⟨k, r, P, ds, ah, rfl, rfl, HK, R1, HS, HO, HT, HF, kb⟩ := hrel
      cases r with
      | nil =>
        have hk : k = n := HK.out
        have hk' : (n : Int) ≤ (k : Int) := by omega
        clear hk
        go_wp2_with (fail)
        go_ret
        exact ⟨_, ds, rfl, HO.out, by rw [HT.out, rowR, HF.out, fullR, List.append_nil], kb⟩
      | cons z cr li bs sub rest =>
        obtain ⟨⟨b1, o1, At1, m1, cm1, As1, e1, rfl, hb1, -, ⟨x0, x1, x2, x3, x4⟩, t1, s1, l1, l2, l3⟩, r1⟩ := R1.out.one
        have X0 := Lib.hid x0
        have X4 := Lib.hid x4
        have HB1 := Lib.hid hb1
        have S1 := Lib.hid s1
        clear s1
        rw [← kb.cell (p := ⟨b1, _, none⟩) hb1] at x0 x1 x2 x3 x4
        have hkn : k < n := by have := HK.out; simp only [Fo.len] at this; omega
        have hlt' : (k : Int) < (n : Int) := by omega
        obtain ⟨Av, cv, ev, f1, f2, f3, f4, f5⟩ := OwnE.form HO.out
        obtain ⟨L, eL⟩ : ∃ L, L = ds.length := ⟨_, rfl⟩
        rw [← eL] at ev f1
        have hL4 : L ≤ 401 := by
          have h2 := congrArg List.length HT.out
          rw [List.length_map, List.length_take] at h2
          omega
        subst ev
        have EL := Lib.hid eL
        clear eL f2 f3 f5
        by_cases hLm : (L : Int) ≤ m
        · have HOa := Lib.hid (HO.out.below ((Below.refl wr.heap.size wr).alloc (Nat.le_refl _) (.cells #[.int .i64 z, .bool cr, .bool li, .slice At1 m1 cm1, .slice As1 sub.len e1, .int .i64 d, .int .i64 ah] 122)))
          have HKa := Lib.hid (kb.alloc kb.size (.cells #[.int .i64 z, .bool cr, .bool li, .slice At1 m1 cm1, .slice As1 sub.len e1, .int .i64 d, .int .i64 ah] 122))
          have hza := HKa.out.size
          have KB := Lib.hid kb
          by_cases h5 : d < 5
          · go_wp2_with (at_builtin; refine wpList_appEL _ rfl (.tmp 23) (.tmp 31) rfl w _ ds L rfl HOa.out EL.out.symm _ 1 1 [⟨z, cr, li, At1, m1, cm1, As1, sub.len, e1, d, ah⟩] rfl rfl (rd_en wr ⟨z, cr, li, At1, m1, cm1, As1, sub.len, e1, d, ah⟩ _) (by omega) HKa.out ?_; intro A3 c3 w3 ho3 hc3 hc4 hk3; have HO3 := Lib.hid ho3; have HK3 := Lib.hid hk3; have y0 : w3.cell? ⟨b1, o1 + k * 5, none⟩ = some (.int .i64 z) := (HK3.out.cell (p := ⟨b1, _, none⟩) HB1.out).trans X0.out; have y4 : w3.cell? ⟨b1, o1 + k * 5 + 4, none⟩ = some (.slice As1 sub.len e1) := (HK3.out.cell (p := ⟨b1, _, none⟩) HB1.out).trans X4.out; clear ho3 hk3 hza)
            have HSs : Hid (sub.size < M) := Lib.hid (by have a := HS.out; have b := HM.out; simp only [Fo.size] at a; omega)
            have q1 : 1 ≤ d + 1 := by clear f4 HO3 y0 y4 l2 hc4; omega
            have q2 : d + 1 ≤ 5 := by omega
            have q3 : -1 ≤ m - ((L : Int) + 1) := by omega
            have q4 : m - ((L : Int) + 1) ≤ 400 := by omega
            have q5 := IH.out sub.size HSs.out sub rfl (d + 1) (m - ((L : Int) + 1)) q1 q2 q3 q4
            have q6 := q5 ok As1 sub.len e1 w3 rfl (S1.out.below HK3.out) l3
            refine Calls.mono q6 ?_
            rintro _ w4 ⟨v4, ds4, rfl, ho4, ht4, hk4⟩
            obtain ⟨L4, eL4⟩ : ∃ L4, ds4.length = L4 := ⟨_, rfl⟩
            have h44 : L4 ≤ 402 := by
              have h2 := congrArg List.length ht4
              rw [List.length_map, rowR, List.length_take] at h2
              omega
            obtain ⟨A4, c4, rfl, h45, h46, R4⟩ := ho4.formL eL4
            have HT4 := Lib.hid ht4
            have HO4 := Lib.hid (HO3.out.below hk4)
            have HK4 := Lib.hid (HK3.out.trans (hk4.mono HK3.out.size))
            have EL4 := Lib.hid eL4
            have RD4 := Lib.hid R4
            have EL3 : Hid ((ds ++ [(⟨z, cr, li, At1, m1, cm1, As1, sub.len, e1, d, ah⟩ : EnV)]).length = L + 1) := Lib.hid (by rw [List.length_append, List.length_singleton, ← EL.out])
            clear ho4 ht4 hk4 eL4 R4
            go_wp2_with (at_builtin; refine wpList_appEL _ rfl (.tmp 40) (.tmp 52) rfl w _ _ (L + 1) rfl HO4.out EL3.out _ L4 c4 ds4 rfl EL4.out RD4.out (by omega) HK4.out ?_; intro A5 c5 w5 ho5 hc5 hc6 hk5; have HO5 := Lib.hid ho5; have HK5 := Lib.hid hk5; clear ho5 hk5)
            refine ⟨⟨k + 1, rest, P ++ (⟨z, cr, li, bs.length, sub.len, d, ah⟩ :: fullR sub (d + 1) 0), _, z, rfl, by rw [Int.natCast_add]; rfl, Lib.hid (by have := HK.out; simp only [Fo.len] at this; omega), Lib.hid r1, Lib.hid (by have := HS.out; simp only [Fo.size] at this; omega), HO5, Lib.hid ?_, Lib.hid ?_, HK5.out⟩, ?_⟩
            · have e := take_round (S := fullR sub (d + 1) 0) (T := fullR rest d z) (x := ⟨z, cr, li, bs.length, sub.len, d, ah⟩) HT.out (by rw [List.length_map, ← EL.out]; exact hLm)
              rw [← e.1, List.map_append, List.map_append, HT4.out, rowR]
              have e2 : ((List.map EnV.en ds ++ [(⟨z, cr, li, bs.length, sub.len, d, ah⟩ : En)]).length : Int) = (L : Int) + 1 := by rw [List.length_append, List.length_map, List.length_singleton, ← EL.out]; rfl
              rw [e2]
              rw [t1.1]; rfl
            · rw [HF.out, fullR, if_pos h5]; simp
            · show n - ((k : Int) + 1).toNat < n - (k : Int).toNat
              omega
          · have h5' : 5 ≤ d := by omega
            go_wp2_with (at_builtin; refine wpList_appEL _ rfl (.tmp 23) (.tmp 31) rfl w _ ds L rfl HOa.out EL.out.symm _ 1 1 [⟨z, cr, li, At1, m1, cm1, As1, sub.len, e1, d, ah⟩] rfl rfl (rd_en wr ⟨z, cr, li, At1, m1, cm1, As1, sub.len, e1, d, ah⟩ _) (by omega) HKa.out ?_; intro A3 c3 w3 ho3 hc3 hc4 hk3; have HO3 := Lib.hid ho3; have HK3 := Lib.hid hk3; have y0 : w3.cell? ⟨b1, o1 + k * 5, none⟩ = some (.int .i64 z) := (HK3.out.cell (p := ⟨b1, _, none⟩) HB1.out).trans X0.out; have y4 : w3.cell? ⟨b1, o1 + k * 5 + 4, none⟩ = some (.slice As1 sub.len e1) := (HK3.out.cell (p := ⟨b1, _, none⟩) HB1.out).trans X4.out; clear ho3 hk3 hza)
            refine ⟨⟨k + 1, rest, P ++ [⟨z, cr, li, bs.length, sub.len, d, ah⟩], _, z, rfl, by rw [Int.natCast_add]; rfl, Lib.hid (by have := HK.out; simp only [Fo.len] at this; omega), Lib.hid r1, Lib.hid (by have := HS.out; simp only [Fo.size] at this; omega), HO3, Lib.hid ?_, Lib.hid ?_, HK3.out⟩, ?_⟩
            · rw [← take_one HT.out (by rw [List.length_map, ← EL.out]; exact hLm), List.map_append]
              rw [t1.1]; rfl
            · rw [HF.out, fullR, if_neg h5]; simp
            · show n - ((k : Int) + 1).toNat < n - (k : Int).toNat
              omega
        · have hLm' : m < (L : Int) := by omega
          go_wp2_with (fail)
          go_ret
          exact ⟨_, rfl, ds, HO.out, by rw [HT.out, rowR, HF.out]; exact take_done rfl (by have e1 := EL.out; have := congrArg List.length HT.out; rw [List.length_map] at this; omega), kb⟩
end Go.Proofs.Ytgnciejbhaebeaa

/- What the reference's Small answers: true only of few items whose bytes are few. Conditions: items that can be read. -/
namespace Go.Proofs.Ytgnciejbhaebeaa
open Go Go.RowKit

theorem RdE_at {w : World} {A : Option Addr} {ds : List EnV} (h : Rd w A (cellsE ds)) (i : Nat) (hi : i < ds.length) : ∃ b off, A = some ⟨b, off, none⟩ ∧ b < w.heap.size ∧
    w.cell? ⟨b, off + i * 7, none⟩ = some (.int .i64 ds[i].k) ∧ w.cell? ⟨b, off + i * 7 + 1, none⟩ = some (.bool ds[i].cr) ∧ w.cell? ⟨b, off + i * 7 + 2, none⟩ = some (.bool ds[i].li) ∧
    w.cell? ⟨b, off + i * 7 + 3, none⟩ = some (.slice ds[i].A ds[i].nb ds[i].cb) ∧ w.cell? ⟨b, off + i * 7 + 4, none⟩ = some (.slice ds[i].As ds[i].ns ds[i].cs) ∧
    w.cell? ⟨b, off + i * 7 + 5, none⟩ = some (.int .i64 ds[i].d) ∧ w.cell? ⟨b, off + i * 7 + 6, none⟩ = some (.int .i64 ds[i].ah) := by
  rcases h with h | ⟨b, off, rfl, hb, h⟩
  · have := congrArg List.length h
    rw [cellsE_length] at this
    simp at this
    omega
  · have q : ∀ j, j < 7 → w.cell? ⟨b, off + i * 7 + j, none⟩ = (ds[i].cells)[j]? := fun j hj => by
      have hl : i * 7 + j < (cellsE ds).length := by rw [cellsE_length]; omega
      rw [Nat.add_assoc, h _ hl, ← List.getElem?_eq_getElem hl, cellsE_get ds i hi j hj]
    exact ⟨b, off, rfl, hb, (q 0 (by omega)).trans rfl, (q 1 (by omega)).trans rfl, (q 2 (by omega)).trans rfl, (q 3 (by omega)).trans rfl, (q 4 (by omega)).trans rfl, (q 5 (by omega)).trans rfl, (q 6 (by omega)).trans rfl⟩
theorem full_bounds {ok : Nat → Prop} {w : World} : ∀ (f : Fo) (A : Option Addr) (i : Nat) (d ah : Int), FoR ok w A i f → ∀ e ∈ fullR f d ah, e.nb ≤ 140737488355328 ∧ e.ns ≤ 2199023255488
  | .nil, _, _, _, _, _, e, he => by simp [fullR] at he
  | .cons k cr li bs sub rest, A, i, d, ah, h, e, he => by
    obtain ⟨⟨b1, o1, At1, m1, cm1, As1, e1, -, -, -, -, t1, s1, -, -, l3⟩, r1⟩ := h
    rw [fullR, List.mem_cons, List.mem_append] at he
    rcases he with rfl | he | he
    · exact ⟨by have := t1.2.2.2.2.2; rw [← t1.1] at this; exact this, l3⟩
    · by_cases h5 : d < 5
      · rw [if_pos h5] at he; exact full_bounds sub _ _ _ _ s1 e he
      · rw [if_neg h5] at he; simp at he
    · exact full_bounds rest _ _ _ _ r1 e he
/-- Bytes that fit, all told. -/
def Fo.fits : Fo → Prop
  | .nil => True
  | .cons _ _ _ bs sub rest => bs.length ≤ 131072 ∧ sub.fits ∧ rest.fits
theorem Fo.len0 {f : Fo} (h : f.len = 0) : f = .nil := by
  cases f with
  | nil => rfl
  | cons => simp [Fo.len] at h
theorem small_of : ∀ (f : Fo) (d ah : Int), d ≤ 5 → (∀ e ∈ fullR f d ah, e.nb ≤ 131072 ∧ (e.d = 5 → e.ns = 0)) → (fullR f d ah).length = f.size ∧ f.fits
  | .nil, _, _, _, _ => ⟨rfl, trivial⟩
  | .cons k cr li bs sub rest, d, ah, hd, h => by
    have h0 := h ⟨k, cr, li, bs.length, sub.len, d, ah⟩ (by rw [fullR]; exact .head _)
    have hr := small_of rest d k hd (fun e he => h e (by rw [fullR]; exact List.mem_cons_of_mem _ (List.mem_append.2 (.inr he))))
    by_cases h5 : d < 5
    · have hs := small_of sub (d + 1) 0 (by omega) (fun e he => h e (by rw [fullR, if_pos h5]; exact List.mem_cons_of_mem _ (List.mem_append.2 (.inl he))))
      exact ⟨by rw [fullR, if_pos h5, List.length_cons, List.length_append, hs.1, hr.1, Fo.size], h0.1, hs.2, hr.2⟩
    · have hd5 : d = 5 := by omega
      obtain rfl : sub = .nil := Fo.len0 (h0.2 hd5)
      exact ⟨by rw [fullR, if_neg h5, List.length_cons, List.length_append, hr.1]; simp [Fo.size], h0.1, trivial, hr.2⟩
/-- Few items, few bytes. -/
def SmallF (f : Fo) : Prop := f.size ≤ 400 ∧ f.fits
theorem small_row {f : Fo} {ds : List EnV} (h : ds.map EnV.en = rowR f 1 400) (h1 : ds.length ≤ 400) (h2 : ∀ (j : Nat) (hj : j < ds.length), ds[j].nb ≤ 131072 ∧ (ds[j].d = 5 → ds[j].ns = 0)) : SmallF f := by
  have hl := congrArg List.length h
  rw [List.length_map, rowR, List.length_take] at hl
  have e : rowR f 1 400 = fullR f 1 0 := by
    rw [rowR]
    refine List.take_of_length_le ?_
    have : ((400 : Int) + 1).toNat = 401 := rfl
    omega
  rw [e] at h
  have q := small_of f 1 0 (by omega) (fun x hx => by
    rw [← h] at hx
    obtain ⟨d, hd, rfl⟩ := List.mem_map.1 hx
    obtain ⟨j, hj, rfl⟩ := List.getElem_of_mem hd
    exact h2 j hj)
  refine ⟨?_, q.2⟩
  rw [← q.1, ← h, List.length_map]
  exact h1
set_option maxRecDepth 100000 in
set_option maxHeartbeats 4000000 in
theorem Small_c (f : Fo) (ok : Nat → Prop) (A : Option Addr) (n c : Nat) (w : World) (hn : f.len = n) (h1 : FoR ok w A 0 f) (hl : n ≤ 2199023255488) :
    Calls Try.prog 40 #[.slice A n c] w fun r w' => ∃ b, r = .returned (.bool b) ∧ (b = true → SmallF f) ∧ Below w.heap.size w w' := by
  have HN := Lib.hid hn; clear hn
  have H1 := Lib.hid h1; clear h1
  go_enter Try.func40, Try.ntmps40
  go_wp2_with (fail)
  refine Calls.mono (row_c f.size f rfl 1 400 (by omega) (by omega) (by omega) (by omega) ok A n c w HN.out H1.out hl) ?_
  rintro _ w1 ⟨v, ds, rfl, ho, hm, hk⟩
  obtain ⟨L, eL⟩ : ∃ L, ds.length = L := ⟨_, rfl⟩
  obtain ⟨Av, cv, rfl, f1, f2, f3⟩ := ho.formL eL
  have hb : ∀ (j : Nat) (hj : j < ds.length), ds[j].nb ≤ 140737488355328 ∧ ds[j].ns ≤ 2199023255488 := fun j hj =>
    full_bounds f A 0 1 0 H1.out _ (List.mem_of_mem_take (by rw [rowR] at hm; rw [← hm]; exact List.mem_map.2 ⟨_, List.getElem_mem hj, rfl⟩))
  have hL4 : L ≤ 401 := by
    have h2 := congrArg List.length hm
    rw [List.length_map, rowR, List.length_take, eL] at h2
    have : ((400 : Int) + 1).toNat = 401 := rfl
    omega
  have HM := Lib.hid hm
  have HB := Lib.hid hb
  have EL := Lib.hid eL
  have RD := Lib.hid f3
  have HK := Lib.hid hk
  have hz1 := Lib.hid hk.size
  clear ho hm hb eL f2 f3 hk
  go_wp2_with (fail)
  go_loopw [4, 5] (fun s i wr => ∃ (k t : Nat), s = .int .i64 t ∧ i = .int .i64 k ∧ k ≤ L ∧ t ≤ 131072 ∧ Hid (∀ (j : Nat) (hj : j < ds.length), j < k → ds[j].nb ≤ 131072 ∧ (ds[j].d = 5 → ds[j].ns = 0)) ∧ Below w1.heap.size w1 wr) (fun _ i _ => L - (intOf i).toNat)
  case atStart => exact ⟨0, 0, rfl, rfl, Nat.zero_le _, Nat.zero_le _, Lib.hid (fun j hj h0 => absurd h0 (Nat.not_lt_zero _)), Below.refl _ _⟩
  case round =>
    obtain ⟨k, t, rfl, rfl, hkL, ht, HP, kb⟩ := hrel
    by_cases hkl : k < L
    · obtain ⟨b1, o1, rfl, hb1, x0, x1, x2, x3, x4, x5, x6⟩ := RdE_at RD.out k (by rw [EL.out]; exact hkl)
      rw [← kb.cell (p := ⟨b1, _, none⟩) hb1] at x3 x4 x5
      obtain ⟨p1, p2⟩ := HB.out k (by rw [EL.out]; exact hkl)
      clear x0 x1 x2 x6
      obtain ⟨nb, enb⟩ : ∃ nb, nb = (ds[k]'(by rw [EL.out]; exact hkl)).nb := ⟨_, rfl⟩
      obtain ⟨ns, ens⟩ : ∃ ns, ns = (ds[k]'(by rw [EL.out]; exact hkl)).ns := ⟨_, rfl⟩
      obtain ⟨dd, edd⟩ : ∃ dd, dd = (ds[k]'(by rw [EL.out]; exact hkl)).d := ⟨_, rfl⟩
      rw [← enb] at x3 p1
      rw [← ens] at x4 p2
      rw [← edd] at x5
      have ENB := Lib.hid enb
      have ENS := Lib.hid ens
      have EDD := Lib.hid edd
      clear enb ens edd
      have KB := Lib.hid kb
      have hlt' : (k : Int) < (L : Int) := by omega
      by_cases hnb : 131072 < t + nb
      · have hnb' : (131072 : Int) < (t : Int) + nb := by omega
        go_wp2_with (fail)
        go_ret
        exact ⟨_, rfl, fun h => (by cases h), HK.out.trans (KB.out.mono HK.out.size)⟩
      · have hnb' : (t : Int) + nb ≤ 131072 := by omega
        have fin : Hid (ns = 0 ∨ dd ≠ 5) → Hid (∀ (j : Nat) (hj : j < ds.length), j < k + 1 → ds[j].nb ≤ 131072 ∧ (ds[j].d = 5 → ds[j].ns = 0)) := fun h0 => Lib.hid fun j hj h1 => by
          by_cases e : j = k
          · subst e
            rw [← ENB.out, ← ENS.out, ← EDD.out]
            exact ⟨by omega, fun e5 => h0.out.resolve_right (fun h => h e5)⟩
          · exact HP.out j hj (by omega)
        have FIN := Lib.hid fin
        clear fin
        by_cases hd5 : dd = 5
        · have ed : (dd == 5) = true := by rw [hd5]; rfl
          by_cases hns : ns = 0
          · have hns' : (ns : Int) ≤ 0 := by omega
            have FIN2 := FIN.out (Lib.hid (.inl hns))
            have hns2 := Lib.hid hns
            clear hns hd5
            go_wp2_with (fail)
            exact ⟨⟨k + 1, t + nb, by go_num, by go_num, by omega, by omega, FIN2, KB.out⟩, by simp [intOf]; omega⟩
          · have hns' : (0 : Int) < (ns : Int) := by omega
            clear hd5
            go_wp2_with (fail)
            go_ret
            exact ⟨_, rfl, fun h => (by cases h), HK.out.trans (KB.out.mono HK.out.size)⟩
        · have ed : (dd == 5) = false := by simpa using hd5
          have FIN2 := FIN.out (Lib.hid (.inr hd5))
          clear hd5
          go_wp2_with (fail)
          exact ⟨⟨k + 1, t + nb, by go_num, by go_num, by omega, by omega, FIN2, KB.out⟩, by simp [intOf]; omega⟩
    · have hkl' : (L : Int) ≤ (k : Int) := by omega
      go_wp2_with (fail)
      go_ret
      refine ⟨_, rfl, fun h => ?_, HK.out.trans (kb.mono HK.out.size)⟩
      have hL : (L : Int) ≤ 400 := of_decide_eq_true h
      exact small_row HM.out (by rw [EL.out]; omega) (fun j hj => HP.out j hj (by have := EL.out; omega))
end Go.Proofs.Ytgnciejbhaebeaa
